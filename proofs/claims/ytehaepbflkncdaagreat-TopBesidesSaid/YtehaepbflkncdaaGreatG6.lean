/- Rules and walks, joined from 38 texts: the first of them says: Chapter 22: the kinds, the numbers within, the lists. No condition. -/
import Derived.Test.YtehaepbflkncdaaGreatG5
set_option linter.unusedSimpArgs false
set_option linter.unusedVariables false
set_option linter.unnecessarySimpa false
set_option maxRecDepth 4000
set_option linter.unusedSimpArgs false
set_option linter.unusedVariables false
namespace Go.Proofs.YtehaepbflkncdaaGreat
open Go Go.RowKit Go.Proofs.YtehaepbflkncdaaGreat.K Go.Proofs.YtehaepbflkncdaaGreat.M
def kindI (k:Int):Value:=if k=1 then .iface 187 (.agg #[]) else if k=2 then .iface 188 (.agg #[]) else if k=3 then .iface 189 (.agg #[]) else if k=4 then .iface 190 (.agg #[]) else if k=5 then .iface 191 (.agg #[]) else .nilIface
def kindB (k:Int):Bool:=decide (1≤k) && decide (k≤5)
def kindR (k:Int):Option (Nat × Value):=if k=1 then some (0,.iface 187 (.agg #[])) else if k=2 then some (1,.iface 188 (.agg #[])) else if k=3 then some (2,.iface 189 (.agg #[])) else if k=4 then some (3,.iface 190 (.agg #[])) else if k=5 then some (4,.iface 191 (.agg #[])) else none
theorem kind_find (k:Int):Instr.findNow (.int .i64) (.int .i64 k) [{ key:=.int .i64 1,val:=.iface 187 (.agg #[]),born:=0 },{ key:=.int .i64 2,val:=.iface 188 (.agg #[]),born:=1 },{ key:=.int .i64 3,val:=.iface 189 (.agg #[]),born:=2 },{ key:=.int .i64 4,val:=.iface 190 (.agg #[]),born:=3 },{ key:=.int .i64 5,val:=.iface 191 (.agg #[]),born:=4 }] 0=some (kindR k):=by
 unfold kindR
 by_cases h1:k=1
 ·subst h1;rfl
 ·by_cases h2:k=2
  ·subst h2;rfl
  ·by_cases h3:k=3
   ·subst h3;rfl
   ·by_cases h4:k=4
    ·subst h4;rfl
    ·by_cases h5:k=5
     ·subst h5;rfl
     ·have e1:(k == 1)=false:=by simpa using h1
      have e2:(k == 2)=false:=by simpa using h2
      have e3:(k == 3)=false:=by simpa using h3
      have e4:(k == 4)=false:=by simpa using h4
      have e5:(k == 5)=false:=by simpa using h5
      simp[Instr.findNow,Instr.sameNow,h1,h2,h3,h4,h5,e1,e2,e3,e4,e5]
theorem kind_hit (k:Int):foundV .nilIface (kindR k)=.tuple #[kindI k,.bool (kindB k)]:=by
 unfold kindR kindI kindB
 by_cases h1:k=1
 ·subst h1;rfl
 ·by_cases h2:k=2
  ·subst h2;rfl
  ·by_cases h3:k=3
   ·subst h3;rfl
   ·by_cases h4:k=4
    ·subst h4;rfl
    ·by_cases h5:k=5
     ·subst h5;rfl
     ·have:(decide (1≤k) && decide (k≤5))=false:=by simp only[Bool.and_eq_false_iff,decide_eq_false_iff_not];omega
      simp[h1,h2,h3,h4,h5,this,foundV]
theorem Kind_V {R:Ro} (k:Int):FnV Tryz.prog 70 [.int .i64 k] R (.tuple #[kindI k,.bool (kindB k)]):=by
 refine Fn.toV (fun w0 E=>?_)
 refine fE 25 Tryz.func70 ?_
 refine zQ (zG (zR 2 rfl (zN (zU (zQ (zG ?_))))))
 refine WL.ef rfl rfl qD (Ef.makeMap rfl (fun b7=>?_))
 refine yW [] ?_
 refine WG.y rfl rfl qD (Yl.toIface tab_ok rfl rfl rfl rfl (fun _=>rfl)) ?_
 refine WL.efN rfl rfl (Ef.insert tab_ok rfl rfl rfl rfl rfl rfl rfl rfl rfl ?_)
 refine yW [] ?_
 refine WG.y rfl rfl qD (Yl.toIface tab_ok rfl rfl rfl rfl (fun _=>rfl)) ?_
 refine WL.efN rfl rfl (Ef.insert tab_ok rfl rfl rfl rfl rfl rfl rfl rfl rfl ?_)
 refine yW [] ?_
 refine WG.y rfl rfl qD (Yl.toIface tab_ok rfl rfl rfl rfl (fun _=>rfl)) ?_
 refine WL.efN rfl rfl (Ef.insert tab_ok rfl rfl rfl rfl rfl rfl rfl rfl rfl ?_)
 refine yW [] ?_
 refine WG.y rfl rfl qD (Yl.toIface tab_ok rfl rfl rfl rfl (fun _=>rfl)) ?_
 refine WL.efN rfl rfl (Ef.insert tab_ok rfl rfl rfl rfl rfl rfl rfl rfl rfl ?_)
 refine yW [] ?_
 refine WG.y rfl rfl qD (Yl.toIface tab_ok rfl rfl rfl rfl (fun _=>rfl)) ?_
 refine WL.efN rfl rfl (Ef.insert tab_ok rfl rfl rfl rfl rfl rfl rfl rfl rfl ?_)
 refine zR 2 rfl ?_
 refine WG.y rfl rfl qD (Yl.lookup (r:=kindR k) (v:=.tuple #[kindI k,.bool (kindB k)]) tab_ok rfl rfl rfl rfl rfl rfl rfl rfl (fun _=>rfl) (kind_find k) (kind_hit k)) ?_
 refine zR 5 rfl (zN (zU (zQ (zG (zR 4 rfl (zN (zU (zT ?_))))))))
 refine sE (E:=E) ?_
 refine zr2 ?_
 exact⟨rfl,rfl⟩
theorem IndexI_V {R:Ro} {a:Option Addr} {c:Nat} {xs:List Int} {g:FuncId} {first capd:Array Value} {p:Int→Bool} (ha:RS R 1 encI a xs) (heg:Enters Tryz.prog g) (hp:∀ i,i<xs.length→FnV Tryz.prog g (first.toList++[.int .i64 (nth xs i)]++capd.toList) R (.bool (p (nth xs i)))) :
  FnV Tryz.prog 275 [.slice a xs.length c,.func (.func g) first capd] R (.int .i64 (findN (fun i=>p (nth xs i)) xs.length)):=by
 have hla:=ha.len
 refine Fn.toV (fun w0 E=>?_)
 refine fE 19 Tryz.func275 ?_
 refine zQ (zG (zR 1 rfl (zN (zU (zQ (zQ (zG (zR 3 rfl (zN (zU (zB ?_)))))))))))
 refine W.loopK (β:=Nat) (fun k=>k≤xs.length∧∀ i,i<k→p (nth xs i)=false) (fun k=>[(8,true,.int .i64 (k:Int))]) [0,1,7] [_,_,_] [] _ rfl (fun k=>[]) (fun k=>xs.length - k) (0) (⟨Nat.zero_le _,fun i hi=>absurd hi (Nat.not_lt_zero i)⟩) ⟨rfl,rfl,rfl,rfl,rfl⟩ qS ?_
 intro k hst
 obtain⟨hk,hpre⟩:=hst
 refine zQ (zG (zR 1 rfl (zN (zU (zQ ?_)))))
 refine cD rfl ?_ ?_<;>intro hc0
 ·
  refine zK (zU (zQ (zB (zQ (zG (zR 2 rfl (zN (zU (zQ (zG (zR 3 rfl ?_)))))))))))
  refine yI ?_
  refine yD (r:=by((apply RS.rdD;assumption;((try dsimp only)<;>omega)))) (k:=?_)
  refine WG.callV (v:=.bool (p (nth xs k))) heg rfl rfl qD (CallOp.mk' rfl rfl rfl rfl) (fun _=>rfl) (fun hg=>hp k qO) ?_
  refine zN (zU ?_)
  refine cC rfl ?_ ?_<;>intro hc1
  ·try simp only[zk] at hc1
   refine zQ (zG (zR 2 rfl (zN (zU (zT (wb (wt (wt (wb (wt ?_))))))))))
   refine sE (E:=E) ?_
   refine zr1 ?_
   exact⟨congrArg (Value.int IntKind.i64) (findN_some qO hc1 hpre).symm,rfl⟩
  ·try simp only[zk] at hc1
   refine zK (zL (zU (zG ?_)))
   refine yA ?_
   refine zR 1 rfl (zN ?_)
   refine WE.again (k+1) (⟨by omega,fun i hi=>by rcases Nat.lt_or_ge i k with h|h;exact hpre i h;rw[show i=k by omega];simpa using hc1⟩) (by(try dsimp only);omega) ⟨rfl,rfl,rfl,rfl,rfl⟩ (RLe.refl _) qS
 ·
  refine zX ?_
  refine wx (wx (zY (zU (zQ (zG (zR 1 rfl (zN (zU (zT ?_)))))))))
  refine sE (E:=E) ?_
  refine zr1 ?_
  exact⟨congrArg (Value.int IntKind.i64) (findN_none (fun j hj=>hpre j qO)).symm,rfl⟩
theorem ContainsI_V {R:Ro} {a:Option Addr} {c:Nat} {xs:List Int} {g:FuncId} {first capd:Array Value} {p:Int→Bool} (ha:RS R 1 encI a xs) (heg:Enters Tryz.prog g) (hp:∀ i,i<xs.length→FnV Tryz.prog g (first.toList++[.int .i64 (nth xs i)]++capd.toList) R (.bool (p (nth xs i)))) :
  FnV Tryz.prog 265 [.slice a xs.length c,.func (.func g) first capd] R (.bool (decide (0≤findN (fun i=>p (nth xs i)) xs.length))):=by
 refine Fn.toV (fun w0 E=>?_)
 refine fE 9 Tryz.func265 ?_
 refine zQ (zG (zR 1 rfl (zN (zU (zQ (zG (zR 2 rfl ?_)))))))
 refine WG.callV en275 rfl rfl qD (CallOp.mk' rfl rfl rfl rfl) (fun _=>rfl) (fun hg=>IndexI_V ha heg hp) ?_
 refine zR 2 rfl (zN (zU (zT ?_)))
 refine sE (E:=E) ?_
 refine zr1 ?_
 exact⟨rfl,rfl⟩
theorem Within1_V {R:Ro} {b4 b5:Nat} {lo hi x:Int} (h4:R b4=some [.int .i64 lo]) (h5:R b5=some [.int .i64 hi]) :
  FnV Tryz.prog 266 [.int .i64 x,.pointer (some ⟨b4,0,none⟩),.pointer (some ⟨b5,0,none⟩)] R (.bool (outB lo hi x)):=by
 refine Fn.toV (fun w0 E=>?_)
 refine fE 13 Tryz.func266 ?_
 refine zQ (zG (zR 1 rfl (zN (zU (zQ (zG (zR 1 rfl ?_)))))))
 refine yD (r:=by exact Rd.ro h4) (k:=?_)
 refine zR 2 rfl ?_
 refine yP ?_
 refine yJ (r:=by exact fun (_:True)=>Rd.ro h5) (k:=?_)
 refine yP ?_
 refine yO ?_
 refine zR 1 rfl (zN (zU (zT ?_)))
 refine sE (E:=E) ?_
 refine zr1 ?_
 exact⟨by unfold outB;rfl,rfl⟩
theorem Within_V {R:Ro} {a:Option Addr} {c l:Nat} {xs:List Int} {lo hi:Int} (ha:RS R 1 encI a xs) (hl:xs.length=l) :
  FnV Tryz.prog 262 [.slice a l c,.int .i64 lo,.int .i64 hi] R (.bool (withinB xs lo hi)):=by
 subst hl
 refine Fn.toV (fun w0 E=>?_)
 refine fE 11 Tryz.func262 ?_
 refine zQ (zG ?_)
 refine zO fun b4=>?_
 refine zO fun b5=>?_
 refine zR 1 rfl (zN (zU ?_))
 refine W.freezeBlk (b:=b4) 1 rfl (fun R1 hR1 hb1=>?_)
 refine W.freezeBlk (b:=b5) 0 rfl (fun R2 hR2 hb2=>?_)
 refine zQ (zG (zR 2 rfl ?_))
 refine WG.callV en265 rfl rfl qD (CallOp.mk' rfl rfl rfl rfl) (fun _=>rfl) (fun hg=>ContainsI_V (ha.mono (hR1.trans hR2)) en266 (fun i hi=>Within1_V (hR2 _ _ hb1) hb2)) ?_
 refine zR 2 rfl (zN (zU (zT ?_)))
 refine sE (E:=E) ?_
 refine zq1 (hR1.trans hR2) ?_
 exact⟨congrArg Value.bool within_find,rfl⟩
theorem Lists_V {R:Ro} {a:Option Addr} {c:Nat} {rows:List Sl} {b:Bool} (ha:RS R 1 encS a rows) :
  FnV Tryz.prog 241 [.bool b,.slice a rows.length c] R (.int .i64 (listsE b (rows.map Sl.xs))):=by
 have hla:=ha.len
 refine Fn.toV (fun w0 E=>?_)
 refine fE 19 Tryz.func241 ?_
 refine zQ (zG (zR 1 rfl (zN (zU (zQ (zQ (zG (zR 2 rfl (zN (zU ?_))))))))))
 refine cC rfl ?_ ?_<;>intro hc0
 ·try simp only[zk] at hc0
  refine zQ (zG (zR 1 rfl (zN (zU (zT (wt ?_))))))
  refine sE (E:=E) ?_
  refine zr1 ?_
  exact⟨by rw[show listsE b (rows.map Sl.xs)=2 by simp[hc0,listsE]];rfl,rfl⟩
 ·try simp only[zk] at hc0
  refine zK (zU (zQ (zQ (zG (zR 3 rfl (zN (zU (zB ?_))))))))
  refine W.loopK (β:=Nat) (fun k=>k≤rows.length∧∀ i,i<k→(nth rows i).xs.length=0) (fun k=>[(11,true,.int .i64 (k:Int))]) [9,10] [_,_] [] _ rfl (fun k=>[]) (fun k=>rows.length - k) (0) (⟨Nat.zero_le _,fun i hi=>absurd hi (Nat.not_lt_zero i)⟩) ⟨rfl,rfl,rfl,rfl⟩ qS ?_
  intro k hst
  obtain⟨hk,hpre⟩:=hst
  refine zQ (zG (zR 1 rfl (zN (zU (zQ ?_)))))
  refine cD rfl ?_ ?_<;>intro hc1
  ·
   refine zK (zU (zQ (zB (zQ (zG ?_)))))
   refine yI ?_
   refine yD (r:=by((apply RS.rdD;assumption;((try dsimp only)<;>omega)))) (k:=?_)
   refine zR 1 rfl (zN (zU (zQ (zG (zR 3 rfl (zN (zU ?_)))))))
   refine cD rfl ?_ ?_<;>intro hc2
   ·
    refine zQ (zG (zR 1 rfl (zN (zU (zT (wb (wt (wt (wb (wt ?_))))))))))
    refine sE (E:=E) ?_
    refine zr1 ?_
    have hb:b=true:=by simpa using hc0
    exact⟨by unfold listsE;rw[if_neg (by simp[hb]),if_pos (List.any_eq_true.2 ⟨(nth rows k).xs,List.mem_map.2 ⟨_,nth_mem (xs:=rows) (k:=k) (by omega),rfl⟩,by simp;omega⟩)];rfl,rfl⟩
   ·
    refine zK (zL (zU (zG ?_)))
    refine yA ?_
    refine zR 1 rfl (zN ?_)
    refine WE.again (k+1) (⟨by omega,fun i hi=>by rcases Nat.lt_or_ge i k with h|h;exact hpre i h;rw[show i=k by omega];omega⟩) (by(try dsimp only);omega) ⟨rfl,rfl,rfl,rfl⟩ (RLe.refl _) qS
  ·
   refine zX ?_
   refine wx (wx (zY (zU (zQ (zG (zR 1 rfl (zN (zU (zT ?_)))))))))
   refine sE (E:=E) ?_
   refine zr1 ?_
   have hb:b=true:=by simpa using hc0
   have hno:((rows.map Sl.xs).any fun r=>decide (0<r.length))=false:=by
    rw[List.any_eq_false]
    intro r hr
    obtain⟨x,hx,rfl⟩:=List.mem_map.1 hr
    obtain⟨i,hi,rfl⟩:=List.getElem_of_mem hx
    have:=hpre i (by omega)
    rw[show nth rows i=rows[i] by unfold nth List.getD;rw[List.getElem?_eq_getElem hi];rfl] at this
    simp[this]
   exact⟨by unfold listsE;rw[if_neg (by simp[hb]),hno];rfl,rfl⟩

theorem ChkFifo_V {R:Ro} {aw at_:Option Addr} {lw cw lt ct:Nat} {L:Ln} (hw:RS R 1 encI aw L.w) (hlw:L.w.length=lw) (ht:RS R 1 encI at_ L.tb) (hlt:L.tb.length=lt) (hn:1≤L.n∧L.n≤6):FnV Tryz.prog 238 [.agg #[],.agg #[.int .i64 L.kind,.int .i64 L.cap,.int .i64 L.n,.slice aw lw cw,.slice at_ lt ct]] R (.int .i64 (listsE true [L.w,L.tb])):=by
 subst hlw
 subst hlt
 have hw1:=hw.len
 have ht1:=ht.len
 refine Fn.toV (fun w0 E=>?_)
 refine fE 11 Tryz.func238 ?_
 refine zQ (zG ?_)
 refine zO fun b2=>?_
 refine zO fun b3=>?_
 refine zR 1 rfl (zN (zU (zQ (zG (zR 1 rfl ?_)))))
 refine yM 0 ?_
 refine zR 1 rfl ?_
 refine yM 0 ?_
 refine WL.ef rfl rfl qD (Ef.buildSliceD (enc:=encS) (parts:=[.tmp 6,.tmp 8]) [⟨_,_,_⟩,⟨_,_,_⟩] tab_ok rfl rfl rfl rfl rfl rfl rfl rfl qD qD (fun a9=>?_))
 refine WL.freeze (enc:=encS) (xs:=[⟨aw,cw,L.w⟩,⟨at_,ct,L.tb⟩]) 0 rfl ?_
 intro R1 hR1 hz
 refine WG.callV en241 rfl rfl qD (CallOp.mk' rfl rfl rfl rfl) (fun _=>rfl) (fun hg=>Lists_V (rows:=[⟨aw,cw,L.w⟩,⟨at_,ct,L.tb⟩]) hz) ?_
 refine zR 1 rfl (zN (zU (zT ?_)))
 refine sE (E:=E) ?_
 refine zq1 (hR1) ?_
 exact⟨rfl,rfl⟩
theorem ChkRanks_V {R:Ro} {aw at_:Option Addr} {lw cw lt ct:Nat} {L:Ln} (hw:RS R 1 encI aw L.w) (hlw:L.w.length=lw) (ht:RS R 1 encI at_ L.tb) (hlt:L.tb.length=lt) (hn:1≤L.n∧L.n≤6):FnV Tryz.prog 246 [.agg #[],.agg #[.int .i64 L.kind,.int .i64 L.cap,.int .i64 L.n,.slice aw lw cw,.slice at_ lt ct]] R (.int .i64 (listsE true [L.w,L.tb])):=by
 subst hlw
 subst hlt
 have hw1:=hw.len
 have ht1:=ht.len
 refine Fn.toV (fun w0 E=>?_)
 refine fE 11 Tryz.func246 ?_
 refine zQ (zG ?_)
 refine zO fun b2=>?_
 refine zO fun b3=>?_
 refine zR 1 rfl (zN (zU (zQ (zG (zR 1 rfl ?_)))))
 refine yM 0 ?_
 refine zR 1 rfl ?_
 refine yM 0 ?_
 refine WL.ef rfl rfl qD (Ef.buildSliceD (enc:=encS) (parts:=[.tmp 6,.tmp 8]) [⟨_,_,_⟩,⟨_,_,_⟩] tab_ok rfl rfl rfl rfl rfl rfl rfl rfl qD qD (fun a9=>?_))
 refine WL.freeze (enc:=encS) (xs:=[⟨aw,cw,L.w⟩,⟨at_,ct,L.tb⟩]) 0 rfl ?_
 intro R1 hR1 hz
 refine WG.callV en241 rfl rfl qD (CallOp.mk' rfl rfl rfl rfl) (fun _=>rfl) (fun hg=>Lists_V (rows:=[⟨aw,cw,L.w⟩,⟨at_,ct,L.tb⟩]) hz) ?_
 refine zR 1 rfl (zN (zU (zT ?_)))
 refine sE (E:=E) ?_
 refine zq1 (hR1) ?_
 exact⟨rfl,rfl⟩
theorem ChkRobin_V {R:Ro} {aw at_:Option Addr} {lw cw lt ct:Nat} {L:Ln} (hw:RS R 1 encI aw L.w) (hlw:L.w.length=lw) (ht:RS R 1 encI at_ L.tb) (hlt:L.tb.length=lt) (hn:1≤L.n∧L.n≤6):FnV Tryz.prog 259 [.agg #[],.agg #[.int .i64 L.kind,.int .i64 L.cap,.int .i64 L.n,.slice aw lw cw,.slice at_ lt ct]] R (.int .i64 (listsE (decide ((L.w.length:Int)=L.n) && withinB L.w 1 20) [L.tb])):=by
 subst hlw
 subst hlt
 have hw1:=hw.len
 have ht1:=ht.len
 refine Fn.toV (fun w0 E=>?_)
 refine fE 20 Tryz.func259 ?_
 refine zQ (zG ?_)
 refine zO fun b2=>?_
 refine zO fun b3=>?_
 refine zR 1 rfl (zN (zU (zQ ?_)))
 refine W.regionH _ (ES:=(.blk b3 [.int .i64 L.kind,.int .i64 L.cap,.int .i64 L.n,.slice aw L.w.length cw,.slice at_ L.tb.length ct]::.blk b2 []::E)) mixed ?_
 refine tP 0 ?_
 refine tL 1 (Rd.add (Rd.blk 0 rfl) _) ?_
 refine tP 2 ?_
 refine tP 3 ?_
 refine tL 4 (Rd.add (Rd.blk 0 rfl) _) ?_
 refine tP 5 ?_
 refine tP 6 ?_
 refine WA.take 7 rfl qK qK qK rfl rfl qD (pureV_ok tab_ok rfl qE) qS qR ?_
 refine' WA.take 8 rfl qK qK qK rfl rfl qD (Yl.loadG tab_ok rfl rfl rfl qE ?r3 rfl ?h3 ?g3) qS qR ?_
 case r3=>apply Rd.addC;(exact Rd.blkC 0 rfl)
 case h3=>rfl
 case g3=>exact fun _=>trivial
 refine tP 11 ?_
 refine tL 12 (Rd.add (Rd.blk 0 rfl) _) ?_
 refine WA.br2 (i:=9) (j:=13) qK ?_ ?_
 ·
  refine WS.callV rfl en262 rfl rfl qD (CallOp.mk' rfl rfl rfl rfl) qE (fun hg=>Within_V (by first|exact hw|exact hw.mono hR1) rfl) qS qR ?_
  refine WA.take 10 rfl (by kernel_rfl) (by kernel_rfl) (by kernel_rfl) rfl rfl (by decide) (Yl.pand rfl rfl rfl (fun _=>rfl) (by intro h1 h2;simp_all<;>omega)) qS (by first|exact RLe.refl _|assumption) ?_
  refine WA.eff 13 rfl qK rfl rfl qD (Ef.buildSliceD (enc:=encS) (parts:=[.tmp 17]) [⟨_,_,_⟩] tab_ok rfl rfl rfl rfl rfl rfl rfl rfl qD qD (fun a18=>?_))
  refine⟨qR,qS,?_⟩
  refine WA.freeze (enc:=encS) (xs:=[⟨at_,ct,L.tb⟩]) 0 rfl ?_
  intro R1 hR1 hz
  refine WA.callV 14 rfl qK en241 rfl rfl qD (CallOp.mk' rfl rfl rfl rfl) (fun _=>rfl) (fun hg=>Lists_V (rows:=[⟨at_,ct,L.tb⟩]) hz) qS qR ?_
  refine tP 15 ?_
  refine WA.done qK ?_
  refine zU (zT ?_)
  refine sE (E:=E) ?_
  refine zq1 (hR1) ?_
  exact⟨rfl,rfl⟩
 ·
  refine WS.eff rfl rfl rfl qD (Ef.buildSliceD (enc:=encS) (parts:=[.tmp 17]) [⟨_,_,_⟩] tab_ok rfl rfl rfl rfl rfl rfl rfl rfl qD qD (fun a18=>?_))
  refine⟨qR,qS,?_⟩
  refine WA.freeze (enc:=encS) (xs:=[⟨at_,ct,L.tb⟩]) 0 rfl ?_
  intro R1 hR1 hz
  refine WA.callV 9 rfl qK en262 rfl rfl qD (CallOp.mk' rfl rfl rfl rfl) qE (fun hg=>Within_V (by first|exact hw|exact hw.mono hR1) rfl) qS qR ?_
  refine WA.take 10 rfl (by kernel_rfl) (by kernel_rfl) (by kernel_rfl) rfl rfl (by decide) (Yl.pand rfl rfl rfl (fun _=>rfl) (by intro h1 h2;simp_all<;>omega)) qS (by first|exact RLe.refl _|assumption) ?_
  refine WA.callV 14 rfl qK en241 rfl rfl qD (CallOp.mk' rfl rfl rfl rfl) (fun _=>rfl) (fun hg=>Lists_V (rows:=[⟨at_,ct,L.tb⟩]) hz) qS qR ?_
  refine tP 15 ?_
  refine WA.done qK ?_
  refine zU (zT ?_)
  refine sE (E:=E) ?_
  refine zq1 (hR1) ?_
  exact⟨rfl,rfl⟩
theorem ChkDef_V {R:Ro} {aw at_:Option Addr} {lw cw lt ct:Nat} {L:Ln} (hw:RS R 1 encI aw L.w) (hlw:L.w.length=lw) (ht:RS R 1 encI at_ L.tb) (hlt:L.tb.length=lt) (hn:1≤L.n∧L.n≤6):FnV Tryz.prog 276 [.agg #[],.agg #[.int .i64 L.kind,.int .i64 L.cap,.int .i64 L.n,.slice aw lw cw,.slice at_ lt ct]] R (.int .i64 (listsE (decide ((L.w.length:Int)=L.n) && withinB L.w 1 6000) [L.tb])):=by
 subst hlw
 subst hlt
 have hw1:=hw.len
 have ht1:=ht.len
 refine Fn.toV (fun w0 E=>?_)
 refine fE 20 Tryz.func276 ?_
 refine zQ (zG ?_)
 refine zO fun b2=>?_
 refine zO fun b3=>?_
 refine zR 1 rfl (zN (zU (zQ ?_)))
 refine W.regionH _ (ES:=(.blk b3 [.int .i64 L.kind,.int .i64 L.cap,.int .i64 L.n,.slice aw L.w.length cw,.slice at_ L.tb.length ct]::.blk b2 []::E)) mixed ?_
 refine tP 0 ?_
 refine tL 1 (Rd.add (Rd.blk 0 rfl) _) ?_
 refine tP 2 ?_
 refine tP 3 ?_
 refine tL 4 (Rd.add (Rd.blk 0 rfl) _) ?_
 refine tP 5 ?_
 refine tP 6 ?_
 refine WA.take 7 rfl qK qK qK rfl rfl qD (pureV_ok tab_ok rfl qE) qS qR ?_
 refine' WA.take 8 rfl qK qK qK rfl rfl qD (Yl.loadG tab_ok rfl rfl rfl qE ?r3 rfl ?h3 ?g3) qS qR ?_
 case r3=>apply Rd.addC;(exact Rd.blkC 0 rfl)
 case h3=>rfl
 case g3=>exact fun _=>trivial
 refine tP 11 ?_
 refine tL 12 (Rd.add (Rd.blk 0 rfl) _) ?_
 refine WA.br2 (i:=9) (j:=13) qK ?_ ?_
 ·
  refine WS.callV rfl en262 rfl rfl qD (CallOp.mk' rfl rfl rfl rfl) qE (fun hg=>Within_V (by first|exact hw|exact hw.mono hR1) rfl) qS qR ?_
  refine WA.take 10 rfl (by kernel_rfl) (by kernel_rfl) (by kernel_rfl) rfl rfl (by decide) (Yl.pand rfl rfl rfl (fun _=>rfl) (by intro h1 h2;simp_all<;>omega)) qS (by first|exact RLe.refl _|assumption) ?_
  refine WA.eff 13 rfl qK rfl rfl qD (Ef.buildSliceD (enc:=encS) (parts:=[.tmp 17]) [⟨_,_,_⟩] tab_ok rfl rfl rfl rfl rfl rfl rfl rfl qD qD (fun a18=>?_))
  refine⟨qR,qS,?_⟩
  refine WA.freeze (enc:=encS) (xs:=[⟨at_,ct,L.tb⟩]) 0 rfl ?_
  intro R1 hR1 hz
  refine WA.callV 14 rfl qK en241 rfl rfl qD (CallOp.mk' rfl rfl rfl rfl) (fun _=>rfl) (fun hg=>Lists_V (rows:=[⟨at_,ct,L.tb⟩]) hz) qS qR ?_
  refine tP 15 ?_
  refine WA.done qK ?_
  refine zU (zT ?_)
  refine sE (E:=E) ?_
  refine zq1 (hR1) ?_
  exact⟨rfl,rfl⟩
 ·
  refine WS.eff rfl rfl rfl qD (Ef.buildSliceD (enc:=encS) (parts:=[.tmp 17]) [⟨_,_,_⟩] tab_ok rfl rfl rfl rfl rfl rfl rfl rfl qD qD (fun a18=>?_))
  refine⟨qR,qS,?_⟩
  refine WA.freeze (enc:=encS) (xs:=[⟨at_,ct,L.tb⟩]) 0 rfl ?_
  intro R1 hR1 hz
  refine WA.callV 9 rfl qK en262 rfl rfl qD (CallOp.mk' rfl rfl rfl rfl) qE (fun hg=>Within_V (by first|exact hw|exact hw.mono hR1) rfl) qS qR ?_
  refine WA.take 10 rfl (by kernel_rfl) (by kernel_rfl) (by kernel_rfl) rfl rfl (by decide) (Yl.pand rfl rfl rfl (fun _=>rfl) (by intro h1 h2;simp_all<;>omega)) qS (by first|exact RLe.refl _|assumption) ?_
  refine WA.callV 14 rfl qK en241 rfl rfl qD (CallOp.mk' rfl rfl rfl rfl) (fun _=>rfl) (fun hg=>Lists_V (rows:=[⟨at_,ct,L.tb⟩]) hz) qS qR ?_
  refine tP 15 ?_
  refine WA.done qK ?_
  refine zU (zT ?_)
  refine sE (E:=E) ?_
  refine zq1 (hR1) ?_
  exact⟨rfl,rfl⟩
theorem ChkTimes_V {R:Ro} {aw at_:Option Addr} {lw cw lt ct:Nat} {L:Ln} (hw:RS R 1 encI aw L.w) (hlw:L.w.length=lw) (ht:RS R 1 encI at_ L.tb) (hlt:L.tb.length=lt) (hn:1≤L.n∧L.n≤6):FnV Tryz.prog 289 [.agg #[],.agg #[.int .i64 L.kind,.int .i64 L.cap,.int .i64 L.n,.slice aw lw cw,.slice at_ lt ct]] R (.int .i64 (listsE (decide (1≤(L.tb.length:Int)) && decide ((L.tb.length:Int)≤40) && withinB L.tb (-1) (L.n - 1)) [L.w])):=by
 subst hlw
 subst hlt
 have hw1:=hw.len
 have ht1:=ht.len
 refine Fn.toV (fun w0 E=>?_)
 refine fE 27 Tryz.func289 ?_
 refine zQ (zG ?_)
 refine zO fun b2=>?_
 refine zO fun b3=>?_
 refine zR 1 rfl (zN (zU (zQ ?_)))
 refine W.regionH _ (ES:=(.blk b3 [.int .i64 L.kind,.int .i64 L.cap,.int .i64 L.n,.slice aw L.w.length cw,.slice at_ L.tb.length ct]::.blk b2 []::E)) mixed ?_
 refine tP 0 ?_
 refine tL 1 (Rd.add (Rd.blk 0 rfl) _) ?_
 refine tP 2 ?_
 refine tP 3 ?_
 refine tP 4 ?_
 refine WA.take 5 rfl qK qK qK rfl rfl qD (pureV_ok tab_ok rfl qE) qS qR ?_
 refine' WA.take 6 rfl qK qK qK rfl rfl qD (Yl.loadG tab_ok rfl rfl rfl qE ?r2 rfl ?h2 ?g2) qS qR ?_
 case r2=>apply Rd.addC;(exact Rd.blkC 0 rfl)
 case h2=>rfl
 case g2=>exact fun _=>trivial
 refine WA.take 7 rfl qK qK qK rfl rfl qD (pureV_ok tab_ok rfl qE) qS qR ?_
 refine WA.take 8 rfl qK qK qK rfl rfl qD (pureV_ok tab_ok rfl qE) qS qR ?_
 refine WA.take 9 rfl (by kernel_rfl) (by kernel_rfl) (by kernel_rfl) rfl rfl (by decide) (Yl.pand rfl rfl rfl (fun _=>rfl) (by intro h1 h2;simp_all<;>omega)) qS (by first|exact RLe.refl _|assumption) ?_
 refine tP 10 ?_
 refine WA.take 11 rfl qK qK qK rfl rfl qD (pureV_ok tab_ok rfl qE) qS qR ?_
 refine' WA.take 12 rfl qK qK qK rfl rfl qD (Yl.loadG tab_ok rfl rfl rfl qE ?r3 rfl ?h3 ?g3) qS qR ?_
 case r3=>apply Rd.addC;(exact Rd.blkC 0 rfl)
 case h3=>rfl
 case g3=>exact fun _=>trivial
 refine WA.take 13 rfl qK qK qK rfl rfl qD (pureV_ok tab_ok rfl qE) qS qR ?_
 refine' WA.take 14 rfl qK qK qK rfl rfl qD (Yl.loadG tab_ok rfl rfl rfl qE ?r4 rfl ?h4 ?g4) qS qR ?_
 case r4=>apply Rd.addC;(exact Rd.blkC 0 rfl)
 case h4=>rfl
 case g4=>exact fun _=>trivial
 refine WA.take 15 rfl (by kernel_rfl) (by kernel_rfl) (by kernel_rfl) rfl rfl (by decide) (Yl.sub rfl rfl rfl qE (by intro hg;(try simp only[zk] at hg);constructor<;>(try dsimp only)<;>omega)) qS (by first|exact RLe.refl _|assumption) ?_
 refine tP 18 ?_
 refine tL 19 (Rd.add (Rd.blk 0 rfl) _) ?_
 refine WA.br2 (i:=16) (j:=20) qK ?_ ?_
 ·
  refine WS.callV rfl en262 rfl rfl qD (CallOp.mk' rfl rfl rfl rfl) qE (fun hg=>Within_V (by first|exact ht|exact ht.mono hR1) rfl) qS qR ?_
  refine WA.take 17 rfl (by kernel_rfl) (by kernel_rfl) (by kernel_rfl) rfl rfl (by decide) (Yl.pand rfl rfl rfl (fun _=>rfl) (by intro h1 h2;simp_all<;>omega)) qS (by first|exact RLe.refl _|assumption) ?_
  refine WA.eff 20 rfl qK rfl rfl qD (Ef.buildSliceD (enc:=encS) (parts:=[.tmp 24]) [⟨_,_,_⟩] tab_ok rfl rfl rfl rfl rfl rfl rfl rfl qD qD (fun a25=>?_))
  refine⟨qR,qS,?_⟩
  refine WA.freeze (enc:=encS) (xs:=[⟨aw,cw,L.w⟩]) 0 rfl ?_
  intro R1 hR1 hz
  refine WA.callV 21 rfl qK en241 rfl rfl qD (CallOp.mk' rfl rfl rfl rfl) (fun _=>rfl) (fun hg=>Lists_V (rows:=[⟨aw,cw,L.w⟩]) hz) qS qR ?_
  refine tP 22 ?_
  refine WA.done qK ?_
  refine zU (zT ?_)
  refine sE (E:=E) ?_
  refine zq1 (hR1) ?_
  exact⟨rfl,rfl⟩
 ·
  refine WS.eff rfl rfl rfl qD (Ef.buildSliceD (enc:=encS) (parts:=[.tmp 24]) [⟨_,_,_⟩] tab_ok rfl rfl rfl rfl rfl rfl rfl rfl qD qD (fun a25=>?_))
  refine⟨qR,qS,?_⟩
  refine WA.freeze (enc:=encS) (xs:=[⟨aw,cw,L.w⟩]) 0 rfl ?_
  intro R1 hR1 hz
  refine WA.callV 16 rfl qK en262 rfl rfl qD (CallOp.mk' rfl rfl rfl rfl) qE (fun hg=>Within_V (by first|exact ht|exact ht.mono hR1) rfl) qS qR ?_
  refine WA.take 17 rfl (by kernel_rfl) (by kernel_rfl) (by kernel_rfl) rfl rfl (by decide) (Yl.pand rfl rfl rfl (fun _=>rfl) (by intro h1 h2;simp_all<;>omega)) qS (by first|exact RLe.refl _|assumption) ?_
  refine WA.callV 21 rfl qK en241 rfl rfl qD (CallOp.mk' rfl rfl rfl rfl) (fun _=>rfl) (fun hg=>Lists_V (rows:=[⟨aw,cw,L.w⟩]) hz) qS qR ?_
  refine tP 22 ?_
  refine WA.done qK ?_
  refine zU (zT ?_)
  refine sE (E:=E) ?_
  refine zq1 (hR1) ?_
  exact⟨rfl,rfl⟩

theorem meth_check1 (x : Value) : Meth Tryz.prog 187 (.agg #[]) "netcalculus/server.check" 238 [x] := fun w => by kernel_rfl
theorem meth_check2 (x : Value) : Meth Tryz.prog 188 (.agg #[]) "netcalculus/server.check" 246 [x] := fun w => by kernel_rfl
theorem meth_check3 (x : Value) : Meth Tryz.prog 189 (.agg #[]) "netcalculus/server.check" 259 [x] := fun w => by kernel_rfl
theorem meth_check4 (x : Value) : Meth Tryz.prog 190 (.agg #[]) "netcalculus/server.check" 276 [x] := fun w => by kernel_rfl
theorem meth_check5 (x : Value) : Meth Tryz.prog 191 (.agg #[]) "netcalculus/server.check" 289 [x] := fun w => by kernel_rfl
theorem check_any {R:Ro} {aw at_:Option Addr} {lw cw lt ct:Nat} {L:Ln} (hw:RS R 1 encI aw L.w) (hlw:L.w.length=lw) (ht:RS R 1 encI at_ L.tb) (hlt:L.tb.length=lt) (hn:1≤L.n∧L.n≤6) (hk:1≤L.kind∧L.kind≤5) :
  ∃ (T f : Nat), kindI L.kind = .iface T (.agg #[]) ∧ Meth Tryz.prog T (.agg #[]) "netcalculus/server.check" f [.agg #[.int .i64 L.kind, .int .i64 L.cap, .int .i64 L.n, .slice aw lw cw, .slice at_ lt ct]] ∧ FnV Tryz.prog f [.agg #[], .agg #[.int .i64 L.kind, .int .i64 L.cap, .int .i64 L.n, .slice aw lw cw, .slice at_ lt ct]] R (.int .i64 (lchkL L)) := by
 rcases(show L.kind=1∨L.kind=2∨L.kind=3∨L.kind=4∨L.kind=5 by omega) with h|h|h|h|h
 ·exact⟨_,_,by unfold kindI;rw[h];rfl,meth_check1 _,by have e:lchkL L=_:=(show lchkL L=listsE true [L.w,L.tb] by unfold lchkL;rw[h];rfl);rw[e];exact ChkFifo_V hw hlw ht hlt hn⟩
 ·exact⟨_,_,by unfold kindI;rw[h];rfl,meth_check2 _,by have e:lchkL L=_:=(show lchkL L=listsE true [L.w,L.tb] by unfold lchkL;rw[h];rfl);rw[e];exact ChkRanks_V hw hlw ht hlt hn⟩
 ·exact⟨_,_,by unfold kindI;rw[h];rfl,meth_check3 _,by have e:lchkL L=_:=(show lchkL L=listsE (decide ((L.w.length:Int)=L.n) && withinB L.w 1 20) [L.tb] by unfold lchkL;rw[h];rfl);rw[e];exact ChkRobin_V hw hlw ht hlt hn⟩
 ·exact⟨_,_,by unfold kindI;rw[h];rfl,meth_check4 _,by have e:lchkL L=_:=(show lchkL L=listsE (decide ((L.w.length:Int)=L.n) && withinB L.w 1 6000) [L.tb] by unfold lchkL;rw[h];rfl);rw[e];exact ChkDef_V hw hlw ht hlt hn⟩
 ·exact⟨_,_,by unfold kindI;rw[h];rfl,meth_check5 _,by have e:lchkL L=_:=(show lchkL L=listsE (decide (1≤(L.tb.length:Int)) && decide ((L.tb.length:Int)≤40) && withinB L.tb (-1) (L.n - 1)) [L.w] by unfold lchkL;rw[h];rfl);rw[e];exact ChkTimes_V hw hlw ht hlt hn⟩
theorem ChkSrv_V {R:Ro} {aw at_:Option Addr} {lw cw lt ct:Nat} {L:Ln} (hw:RS R 1 encI aw L.w) (hlw:L.w.length=lw) (ht:RS R 1 encI at_ L.tb) (hlt:L.tb.length=lt):FnV Tryz.prog 42 [.agg #[.int .i64 L.kind,.int .i64 L.cap,.int .i64 L.n,.slice aw lw cw,.slice at_ lt ct]] R (.int .i64 (chkL L)):=by
 refine Fn.toV (fun w0 E=>?_)
 refine fE 34 Tryz.func42 ?_
 refine zQ (zG ?_)
 refine zO fun b1=>?_
 refine zR 1 rfl (zN (zU (zQ (zG (zR 1 rfl ?_)))))
 refine yM 0 ?_
 refine WG.callV en70 rfl rfl qD (CallOp.mk' rfl rfl rfl rfl) (fun _=>rfl) (fun hg=>Kind_V L.kind) ?_
 refine zR 5 rfl (zN (zU (zQ (zQ (zG (zR 2 rfl (zN (zU ?_))))))))
 refine cC rfl ?_ ?_<;>intro hc0
 ·try simp only[zk] at hc0
  have e:chkL L=9:=by
   unfold chkL
   rw[if_pos]
   unfold kindB at hc0
   simp only[Bool.and_eq_false_iff,decide_eq_false_iff_not] at hc0
   omega
  refine zQ (zG (zR 1 rfl (zN (zU (zT (wt ?_))))))
  refine sE (E:=E) ?_
  refine zr1 ?_
  exact⟨by rw[e];rfl,rfl⟩
 ·try simp only[zk] at hc0
  have hkk:1≤L.kind∧L.kind≤5:=by
   unfold kindB at hc0
   simpa using hc0
  refine zK (zU (zQ (zQ (zG (zR 1 rfl ?_)))))
  refine yM 0 ?_
  refine zR 2 rfl ?_
  refine yP ?_
  refine yG (Rd.addC (Rd.blkC 0 rfl) _) ?_
  refine yP ?_
  refine yO ?_
  refine zR 1 rfl ?_
  refine yP ?_
  refine yG (Rd.addC (Rd.blkC 0 rfl) _) ?_
  refine yP ?_
  refine yO ?_
  refine zR 1 rfl ?_
  refine yP ?_
  refine yG (Rd.addC (Rd.blkC 0 rfl) _) ?_
  refine yP ?_
  refine yO ?_
  refine zN (zU ?_)
  refine cC rfl ?_ ?_<;>intro hc1
  ·try simp only[zk] at hc1
   have e:chkL L=2:=by unfold chkL;rw[if_neg (by omega),if_pos (by omega)]
   refine zQ (zG (zR 1 rfl (zN (zU (zT (wt ?_))))))
   refine sE (E:=E) ?_
   refine zr1 ?_
   exact⟨by rw[e];rfl,rfl⟩
  ·try simp only[zk] at hc1
   have hn:1≤L.n∧L.n≤6:=by omega
   have e:chkL L=lchkL L:=by unfold chkL;rw[if_neg (by omega),if_neg (by omega)]
   obtain⟨T9,f9,e9,m9,v9⟩:=check_any (R:=R) (lw:=lw) (lt:=lt) (cw:=cw) (ct:=ct) hw hlw ht hlt hn hkk
   refine zK (zU ?_)
   rw[e9]
   refine zQ (zG (zR 1 rfl ?_))
   refine yB 0 ?_
   refine WL.callI (args:=[.tmp 32]) rfl rfl rfl qD rfl rfl (m9) (v9.toFn) ?_
   rintro _ _ _ - ⟨rfl,rfl,rfl⟩
   refine zR 1 rfl (zN (zU (zT ?_)))
   refine sE (E:=E) ?_
   refine zr1 ?_
   exact⟨by rw[e];rfl,rfl⟩

theorem Common_V {R:Ro} {a b:Nat} (ha:a≤1000000000) (hb:0<b∧b≤1000000):FnV Tryz.prog 179 [.int .i64 (a:Int),.int .i64 (b:Int)] R (.int .i64 ((a / Nat.gcd a b*b:Nat):Int)):=by
 refine Fn.toV (fun w0 E=>?_)
 have hg:0<Nat.gcd a b:=Nat.gcd_pos_of_pos_right _ hb.1
 have hq:((a:Int) / (Nat.gcd a b:Int)*(b:Int))≤1000000000*1000000∧0≤((a:Int) / (Nat.gcd a b:Int)*(b:Int)):=by
  have h1:a / Nat.gcd a b*b≤1000000000*1000000:=Nat.mul_le_mul (Nat.le_trans (Nat.div_le_self _ _) ha) hb.2
  have e:((a:Int) / (Nat.gcd a b:Int)*(b:Int))=((a / Nat.gcd a b*b:Nat):Int):=rfl
  omega
 refine fE 20 Tryz.func179 ?_
 refine zQ (zG (zR 1 rfl (zN (zU (zQ (zG (zR 4 rfl (zN (zU (zQ (zB ?_)))))))))))
 refine W.loopK (β:=Nat × Nat) (fun (x,y)=>Nat.gcd x y=Nat.gcd a b) (fun (x,y)=>[(5,true,.int .i64 (x:Int)),(6,true,.int .i64 (y:Int))]) [0,1] [_,_] [] _ rfl (fun (x,y)=>[]) (fun (x,y)=>y) ((a,b)) (rfl) ⟨rfl,rfl,rfl,rfl,rfl⟩ qS ?_
 intro st hst
 obtain⟨x,y⟩:=st
 dsimp only[zipE,setAll,List.cons_append,List.nil_append,List.set_cons_zero,List.set_cons_succ] at hst ⊢
 refine zQ (zQ (zG (zR 2 rfl (zN (zU ?_)))))
 refine cN rfl ?_ ?_<;>intro hc0
 ·
  refine zK (zU (zB ?_))
  refine W.regionQ _ mixed qK ?_
  refine zR 3 rfl ?_
  refine WG.y rfl rfl qD (Yl.rem rfl rfl rfl (fun _=>rfl) qN qN) ?_
  refine zR 2 rfl (zN (zL ?_))
  refine WE.again ((y,x % y)) ((gcd_step x y).trans hst) (by dsimp only;exact Nat.mod_lt _ qO) ⟨rfl,rfl,rfl,rfl,rfl⟩ (RLe.refl _) qS
 ·
  obtain rfl:y=0:=by omega
  rw[Nat.gcd_zero_right] at hst
  subst hst
  refine zX ?_
  refine wx (wx (zY (zU (zQ (zG (zR 2 rfl ?_))))))
  refine yV ?_
  refine zR 1 rfl ?_
  refine yU ?_
  refine zR 1 rfl (zN (zU (zT ?_)))
  refine sE (E:=E) ?_
  refine zr1 ?_
  exact⟨rfl,rfl⟩
theorem LeastW_V {R:Ro} {a:Option Addr} {c:Nat} {v:List Int} {inc:Int} {l:Nat} (ha:RS R 1 encI a v) (hvl:v.length=l) (hl:0<l∧l≤100000) (hi:0≤inc∧inc≤1000000000000) (hv:∀ x∈v,0≤x∧x≤1000000000000000):FnV Tryz.prog 187 [.slice a l c,.int .i64 inc] R (.int .i64 (leastL v inc:Int)):=by
 subst hvl
 refine Fn.toV (fun w0 E=>?_)
 refine fE 84 Tryz.func187 ?_
 refine zQ (zG (zR 1 rfl (zN (zU ?_))))
 refine W.scope ?_
 refine zQ (zG (zR 3 rfl (zN (zU (zQ (W.label (zU (zQ (zQ (zG (zR 1 rfl (zN (zU (zB ?_))))))))))))))
 refine W.loopK (β:=Nat) (fun p=>1≤p∧p≤max 1 v.length∧∀ j,1≤j→j<p→leastOk v inc j=false) (fun p=>[(6,true,.int .i64 (p:Int))]) [0,1,5] [_,_,_] [] _ rfl (fun p=>[]) (fun p=>v.length - p) (1) (⟨Nat.le_refl _,by omega,fun j a b=>by omega⟩) ⟨rfl,rfl,rfl,rfl,rfl⟩ qS ?_
 intro p hst
 dsimp only[zipE,setAll,List.cons_append,List.nil_append,List.set_cons_zero,List.set_cons_succ] at hst ⊢
 obtain⟨h1,h2,h3⟩:=hst
 have hip:0≤inc*(p:Int)∧inc*(p:Int)≤1000000000000*100000:=⟨Int.mul_nonneg hi.1 (by omega),Int.mul_le_mul hi.2 (by omega) (by omega) (by omega)⟩
 have hiq:0≤inc*(p:Int) / (v.length:Int)∧inc*(p:Int) / (v.length:Int)≤1000000000000*100000:=⟨Int.ediv_nonneg hip.1 (by omega),Int.le_trans (Int.ediv_le_self _ hip.1) hip.2⟩
 refine zQ (zQ (zG (zR 3 rfl (zN (zU ?_)))))
 refine cD rfl ?_ ?_<;>intro hc0
 ·
  refine zK (zU (zQ (zB (zQ (zQ (zG (zR 2 rfl ?_)))))))
  refine WG.y rfl rfl qD (Yl.rem rfl rfl rfl (fun _=>rfl) qN qN) ?_
  refine zR 2 rfl ?_
  refine yP ?_
  refine yP ?_
  refine WG.y rfl rfl (by decide) (Yl.mul rfl rfl rfl qE (by intro hg;(try simp only[zk] at hg);constructor<;>(try dsimp only)<;>omega)) ?_
  refine yP ?_
  refine WG.y rfl rfl (by decide) (Yl.rem rfl rfl rfl qE (by intro hg;(try simp only[zk] at hg);(try dsimp only)<;>omega) (by intro hg;(try simp only[zk] at hg);(try dsimp only)<;>omega)) ?_
  refine yP ?_
  refine yO ?_
  refine zN (zU ?_)
  refine cC rfl ?_ ?_<;>intro hc1
  ·try simp only[zk] at hc1
   have hno:leastOk v inc p=false:=leastOk_no1 (by rcases hc1 with h|h;exact .inl (by omega);exact .inr h)
   refine zX ?_
   refine wx (zY (zU (zG (zR 1 rfl ?_))))
   refine yA ?_
   refine zR 1 rfl (zN ?_)
   refine WE.again (p+1) (⟨by omega,by omega,fun j a b=>by
    by_cases e:j=p
    ·subst e;exact hno
    ·exact h3 j a (by omega)⟩) (by(try dsimp only);omega) ⟨rfl,rfl,rfl,rfl,rfl⟩ (RLe.refl _) qS
  ·try simp only[zk] at hc1
   have hy1:v.length % p=0:=by have:=hc1.1;omega
   have hy2:(inc*(p:Int)) % (v.length:Int)=0:=hc1.2
   refine zK (zU (zQ (zG (zR 2 rfl ?_))))
   refine yU ?_
   refine zR 1 rfl ?_
   refine yV ?_
   refine zR 1 rfl (zN (zU (zQ (zQ (zG (zR 3 rfl (zN (zU (zB ?_)))))))))
   refine W.loopK (β:=Nat) (fun i=>i≤v.length∧∀ j,j<i→leastC v inc p j=true) (fun i=>[(36,true,.int .i64 (i:Int))]) [0,1,5,6,7,35] [_,_,_,_,_,_] [] _ rfl (fun i=>[]) (fun i=>v.length - i) (0) (⟨Nat.zero_le _,fun j hj=>by omega⟩) ⟨rfl,rfl,rfl,rfl,rfl,rfl,rfl,rfl⟩ qS ?_
   intro i hst
   dsimp only[zipE,setAll,List.cons_append,List.nil_append,List.set_cons_zero,List.set_cons_succ] at hst ⊢
   refine zQ (zG (zR 1 rfl (zN (zU (zQ ?_)))))
   refine cD rfl ?_ ?_<;>intro hc2
   ·
    have hil:i<v.length:=by omega
    have hvi:=hv _ (nth_mem hil)
    have e1:((i:Int)+(p:Int)).toNat=i+p:=by omega
    have e2:((i:Int)+(p:Int) - (v.length:Int)).toNat=i+p - v.length:=by omega
    have hvj:i+p<v.length→0≤nth v (i+p)∧nth v (i+p)≤1000000000000000:=fun h=>hv _ (nth_mem h)
    have hvk:v.length≤i+p→0≤nth v (i+p - v.length)∧nth v (i+p - v.length)≤1000000000000000:=fun h=>hv _ (nth_mem (by omega))
    have hvk2:v.length≤i+p→0≤nth v ((i:Int)+(p:Int) - (v.length:Int)).toNat∧nth v ((i:Int)+(p:Int) - (v.length:Int)).toNat≤1000000000000000:=fun h=>by rw[e2];exact hvk h
    refine zK (zU (zQ (zB (zQ (zG (zR 2 rfl (zN (zU (zQ (zG (zR 2 rfl ?_)))))))))))
    refine yI ?_
    refine yD (r:=by((apply RS.rdD;assumption;((try dsimp only)<;>omega)))) (k:=?_)
    refine zR 1 rfl ?_
    refine yA ?_
    refine zR 1 rfl (zN (zU (zQ (zG (zR 2 rfl ?_)))))
    refine yA ?_
    refine zR 3 rfl ?_
    refine yP ?_
    refine yP ?_
    refine yP ?_
    refine WG.y rfl rfl (by decide) (Yl.add rfl rfl rfl qE (by intro hg;(try simp only[zk] at hg);constructor<;>(try dsimp only)<;>omega)) ?_
    refine gX ?_
    refine yJ (r:=by((apply RS.rdC;assumption))) (k:=?_)
    refine yP ?_
    refine yP ?_
    refine yN ?_
    refine zR 1 rfl ?_
    refine yP ?_
    refine yP ?_
    refine WG.y rfl rfl (by decide) (Yl.add rfl rfl rfl qE (by intro hg;(try simp only[zk] at hg);constructor<;>(try dsimp only)<;>omega)) ?_
    refine yP ?_
    refine yP ?_
    refine yP ?_
    refine yP ?_
    refine yP ?_
    refine yP ?_
    refine WG.y rfl rfl (by decide) (Yl.add rfl rfl rfl qE (by intro hg;(try simp only[zk] at hg);constructor<;>(try dsimp only)<;>omega)) ?_
    refine yP ?_
    refine WG.y rfl rfl (by decide) (Yl.sub rfl rfl rfl qE (by intro hg;(try simp only[zk] at hg);constructor<;>(try dsimp only)<;>omega)) ?_
    refine gX ?_
    refine yJ (r:=by((apply RS.rdC;assumption))) (k:=?_)
    refine yP ?_
    refine WG.y rfl rfl (by decide) (Yl.add rfl rfl rfl qE (by intro hg;(try simp only[zk] at hg);constructor<;>(try dsimp only)<;>omega)) ?_
    refine yP ?_
    refine yP ?_
    refine yN ?_
    refine yO ?_
    refine zN (zU ?_)
    refine cC rfl ?_ ?_<;>intro hc3
    ·try simp only[zk] at hc3
     have hC:leastC v inc p i=false:=by
      unfold leastC
      rw[← Bool.not_eq_true]
      intro h
      rw[beq_iff_eq] at h
      rw[e1,e2] at hc3
      rcases hc3 with ⟨x1,x2⟩|⟨x1,x2⟩
      ·rw[if_pos (by omega)] at h;exact x2 h
      ·rw[if_neg (by omega)] at h;exact x2 h
     have hno:leastOk v inc p=false:=leastOk_no2 hil hC
     refine zX ?_
     refine WE.blk_other rfl ?_
     refine wx (wx ?_)
     refine WE.blk_other rfl ?_
     refine wx (zY (zU (zG (zR 1 rfl ?_))))
     refine yA ?_
     refine zR 1 rfl (zN ?_)
     refine WE.again (p+1) (⟨by omega,by omega,fun j a b=>by
      by_cases e:j=p
      ·subst e;exact hno
      ·exact h3 j a (by omega)⟩) (by(try dsimp only);omega) ⟨rfl,rfl,rfl,rfl,rfl⟩ (RLe.refl _) qS
    ·try simp only[zk] at hc3
     have hC:leastC v inc p i=true:=by
      unfold leastC
      rw[beq_iff_eq]
      rw[e1,e2] at hc3
      by_cases h:i+p<v.length
      ·rw[if_pos h];exact hc3.1 (by omega)
      ·rw[if_neg h];exact hc3.2 (by omega)
     refine zK (zL (zU (zG ?_)))
     refine yA ?_
     refine zR 1 rfl (zN ?_)
     refine WE.again (i+1) (⟨by omega,fun j hj=>by
      by_cases e:j=i
      ·subst e;exact hC
      ·exact hst.2 j (by omega)⟩) (by(try dsimp only);omega) ⟨rfl,rfl,rfl,rfl,rfl,rfl,rfl,rfl⟩ (RLe.refl _) qS
   ·
    obtain rfl:i=v.length:=by omega
    have hok:leastOk v inc p=true:=leastOk_yes hy1 hy2 hst.2
    refine zX ?_
    refine wx (wx (zY (zU (zQ (zG (zR 2 rfl (zN (zU (zT (wb (wt (wt (wb (wt ?_))))))))))))))
    refine WE.scope_ret ?_
    refine sE (E:=E) ?_
    refine zr1 ?_
    exact⟨by rw[leastL_some h1 (by omega) hok h3];rfl,rfl⟩
 ·
  refine zX ?_
  refine wx (wx (zY (zU (zQ (zG (zR 2 rfl (zN (zU (zT ?_)))))))))
  refine WE.scope_ret ?_
  refine sE (E:=E) ?_
  refine zr1 ?_
  exact⟨by rw[leastL_none (fun j a b=>h3 j a (by omega))];rfl,rfl⟩
theorem Checked_C {R:Ro} {a:Option Addr} {c:Nat} {v:List Int} {p q:Int} {l:Nat} (ha:RS R 1 encI a v) (hvl:v.length=l) (w0:World) (E:List Ent):K.Fn Tryz.prog 188 [.slice a l c,.int .i64 p,.int .i64 q] w0 R E (fun r R' E'=>∃ (f:Option Addr) (fc:Nat),r=cvV f fc (checkedL v p q)∧RS R' 1 encI f (checkedL v p q).1.vals∧E.Sublist E'):=by
 subst hvl
 have hla:=ha.len
 refine fE 33 Tryz.func188 ?_
 refine zQ (zG ?_)
 refine zA fun b6=>?_
 refine zR 1 rfl (zN (zU (zQ (zQ (zG (zR 3 rfl (zN (zU ?_))))))))
 refine cD rfl ?_ ?_<;>intro hc0
 ·
  have hb:checkedE v=3:=checkedE_big (by omega)
  refine zQ (zG ?_)
  refine yW [] ?_
  refine zE 0 ?_
  refine zR 1 rfl (zN (zU (zT (wt ?_))))
  refine zq4 (by first|exact hR1|exact RLe.refl _) ?_
  exact⟨none,0,by rw[checkedL_bad hb];rfl,by rw[checkedL_bad hb];exact rs_nil,qS⟩
 ·
  refine zK (zU (zQ (zQ (zG (zR 3 rfl (zN (zU (zB ?_))))))))
  refine W.loopK (β:=Nat) (fun i=>i≤v.length∧∀ j,j<i→nth v j=INF∨nth v j≤MAXV) (fun i=>[(16,true,.int .i64 (i:Int))]) [0,1,2,6,14,15] [_,_,_,_,_,_] [] _ rfl (fun i=>[]) (fun i=>v.length - i) (0) (⟨Nat.zero_le _,fun j hj=>by omega⟩) ⟨rfl,rfl,rfl,rfl,rfl,rfl,rfl,rfl⟩ qS ?_
  intro i hst
  dsimp only[zipE,setAll,List.cons_append,List.nil_append,List.set_cons_zero,List.set_cons_succ] at hst ⊢
  refine zQ (zG (zR 1 rfl (zN (zU (zQ ?_)))))
  refine cD rfl ?_ ?_<;>intro hc1
  ·
   refine zK (zU (zQ (zB (zQ (zG ?_)))))
   refine yI ?_
   refine yD (r:=by((apply RS.rdD;assumption;((try dsimp only)<;>omega)))) (k:=?_)
   refine zR 1 rfl (zN (zU (zQ (zG (zR 3 rfl ?_)))))
   refine yP ?_
   refine yP ?_
   refine yN ?_
   refine zN (zU ?_)
   refine cC rfl ?_ ?_<;>intro hc2
   ·try simp only[zk] at hc2
    have hb:checkedE v=3:=checkedE_one (i:=i) (by omega) hc2.1 hc2.2
    refine zQ (zG ?_)
    refine yW [] ?_
    refine zE 0 ?_
    refine zR 1 rfl (zN (zU (zT (wb (wt (wt (wb (wt ?_))))))))
    refine zq4 (by first|exact hR1|exact RLe.refl _) ?_
    exact⟨none,0,by rw[checkedL_bad hb];rfl,by rw[checkedL_bad hb];exact rs_nil,qS⟩
   ·try simp only[zk] at hc2
    have hy:nth v i=INF∨nth v i≤MAXV:=by unfold INF MAXV;omega
    refine zK (zL (zU (zG ?_)))
    refine yA ?_
    refine zR 1 rfl (zN ?_)
    refine WE.again (i+1) (⟨by omega,fun j hj=>by
     by_cases e:j=i
     ·subst e;exact hy
     ·exact hst.2 j (by omega)⟩) (by(try dsimp only);omega) ⟨rfl,rfl,rfl,rfl,rfl,rfl,rfl,rfl⟩ (RLe.refl _) qS
  ·
   obtain rfl:i=v.length:=by omega
   have hg:checkedE v≠3:=checkedE_fine (by omega) hst.2
   refine zX ?_
   refine wx (wx (zY (zU ?_)))
   refine W.nil 3 1 qD ?_
   refine zQ (zG (zR 1 rfl ?_))
   refine WL.ef rfl rfl qD (Ef.cloneR (enc:=encI) 0 tab_ok rfl rfl rfl rfl rfl rfl rfl rfl rfl rfl ha (fun _ _=>rfl) (by dsimp only;omega) qO (fun a29 c29 ha29=>?_))
   refine zR 2 rfl ?_
   refine yW [(0,.tmp 29),(1,.tmp 30),(2,.tmp 31)] ?_
   refine zE 1 ?_
   refine zR 1 rfl ?_
   refine WL.freeze (enc:=encI) (xs:=v) 0 rfl ?_
   intro R1 hR1 hz
   refine zN (zU (zT ?_))
   refine zq4 (by first|exact hR1|exact RLe.refl _) ?_
   exact⟨a29,c29,by rw[checkedL_good hg];rfl,by rw[checkedL_good hg];exact hz,qS⟩
theorem Ending_C {R:Ro} {a:Option Addr} {c:Nat} {v:List Int} {l:Nat} (ha:RS R 1 encI a v) (hvl:v.length=l) (w0:World) (E:List Ent):K.Fn Tryz.prog 186 [.slice a l c] w0 R E (fun r R' E'=>∃ (f:Option Addr) (fc:Nat),r=cvV f fc (checkedL v 1 0)∧RS R' 1 encI f (checkedL v 1 0).1.vals∧E.Sublist E'):=by
 refine fE 8 Tryz.func186 ?_
 refine zQ (zG ?_)
 refine zA fun b2=>?_
 refine zR 1 rfl (zN (zU (zQ (zG (zR 1 rfl ?_)))))
 refine WL.call en188 rfl rfl qD (CallOp.mkT rfl rfl rfl rfl) (Checked_C ha hvl w0 _) ?_
 rintro _ R1 E1 hR1 ⟨f,fc,rfl,hf,hsub⟩
 refine WL.subE hsub ?_
 unfold cvV
 refine zR 2 rfl ?_
 refine zE 0 ?_
 refine zR 1 rfl (zN (zU (zT ?_)))
 refine zq4 (hR1) ?_
 exact⟨f,fc,rfl,hf,qS⟩
theorem Build_C {R:Ro} {g:FuncId} {fi ca:Array Value} {F:Nat→Int} {S P:Nat} {I:Int} (hE:Enters Tryz.prog g) (hS:S≤10000) (hP:0<P∧P≤10000) (hI:0≤I∧I≤1000000000000) (hFb:∀ t,t<S+P→F t=INF∨(0≤F t∧F t≤1000000000000000)) (hF:∀ t:Nat,t<S+P→FnV Tryz.prog g (fi.toList++[.int .i64 (t:Int)]++ca.toList) R (.int .i64 (F t))) (w0:World) (E:List Ent) :
  K.Fn Tryz.prog 144 [.func (.func g) fi ca,.int .i64 (S:Int),.int .i64 (P:Int),.int .i64 I] w0 R E (fun r R' E'=>∃ (f:Option Addr) (fc:Nat),r=cvV f fc (mbuild F S P I)∧RS R' 1 encI f (mbuild F S P I).1.vals∧E.Sublist E'):=by
 have hsp:((S:Int)+(P:Int)).toNat=S+P:=by omega
 refine fE 90 Tryz.func144 ?_
 refine zQ (zG ?_)
 refine zA fun b8=>?_
 refine zR 1 rfl (zN (zU (zQ (zG (zR 2 rfl ?_)))))
 refine yA ?_
 refine WL.ef rfl rfl qD (Ef.makeSliceD (enc:=encI) 0 tab_ok rfl rfl rfl rfl rfl rfl qX qX qX qX qD rfl rfl (fun a17=>?_))
 refine zR 1 rfl (zN (zU (zQ (zQ (zG (zR 3 rfl (zN (zU (zB ?_)))))))))
 refine W.loopK (β:=Nat) (fun t=>t≤S+P∧∀ j,j<t→F j≠INF) (fun t=>[(20,true,.int .i64 (t:Int))]) [0,1,2,3,8,10,19] [_,_,_,_,_,_,_] [] _ rfl (fun t=>[(0,.sl 3 1 (some ⟨a17,0,none⟩) (S+P) ((partV F t (S+P)).map encI))]) (fun t=>S+P - t) (0) (⟨Nat.zero_le _,fun j hj=>by omega⟩) ⟨rfl,rfl,rfl,rfl,rfl,rfl,rfl,rfl,rfl⟩ qS ?_
 intro t hst
 dsimp only[zipE,setAll,List.cons_append,List.nil_append,List.set_cons_zero,List.set_cons_succ] at hst ⊢
 have hpl:=partV_len F (t:=t) (n:=S+P) (by omega)
 obtain⟨ht,hni⟩:=hst
 refine zQ (zG (zR 1 rfl (zN (zU (zQ ?_)))))
 refine cD rfl ?_ ?_<;>intro hc0
 ·
  have htl:t<S+P:=by omega
  have hset:=partV_set F htl
  have hnt:=partV_nth F (t:=t) (k:=t+1) (n:=S+P) (by omega)
  have hbt:=hFb t htl
  refine zK (zU (zQ (zB (zQ (zG (zR 2 rfl (zN (zU (zQ (zG (zR 4 rfl ?_)))))))))))
  refine WG.callV hE rfl rfl qD (CallOp.mk' rfl rfl rfl rfl) (fun _=>rfl) (fun hg=>hF t qO) ?_
  refine yI ?_
  refine WL.efN rfl rfl (Ef.storeD _ 0 tab_ok rfl rfl rfl rfl rfl qX rfl rfl rfl rfl ?_)
  refine zN (zU ?_)
  have hnt2:nth ((partV F t (S+P)).set t (F t)) t=F t:=by rw[hset];exact hnt
  refine zQ (zG (zR 2 rfl ?_))
  refine yI ?_
  refine yD (r:=by exact Rd.slD 0 rfl (by rw[List.length_set];omega)) (k:=?_)
  refine zR 1 rfl (zN (zU ?_))
  refine cE rfl ?_ ?_<;>intro hc1
  ·
   have hinf:F t=INF:=by rw[← hnt,← hset];exact hc1
   have hmb:mbuild F S P I=checkedL (fvals F (t+1)) 1 0:=by unfold mbuild;rw[infAt_some htl hinf hni,if_neg (by omega),Int.toNat_natCast]
   refine W.freeze (enc:=encI) (xs:=partV F (t+1) (S+P)) 0 (by rw[← hset];rfl) ?_
   intro R1 hR1 hz
   refine zQ (zG (zR 2 rfl ?_))
   refine yA ?_
   refine WG.y rfl rfl qD (Yl.sliceH tab_ok rfl rfl rfl rfl rfl (fun _=>rfl) (by intro _;omega) rfl) ?_
   refine WL.call en186 rfl rfl (by decide) (CallOp.mkT rfl rfl rfl rfl) (Ending_C (by have:=hz.take (t+1);rwa [partV_take] at this) (by rw[fvals_len];omega) w0 _) ?_
   rintro _ R2 E2 hR2 ⟨f,fc,rfl,hf,hsub⟩
   refine WL.subE hsub ?_
   unfold cvV
   refine zR 2 rfl ?_
   refine zE 0 ?_
   refine zR 1 rfl (zN (zU (zT (wb (wt (wt (wb (wt ?_))))))))
   refine zq4 (by first|exact hR1|exact hR1.trans hR2) ?_
   exact⟨f,fc,by rw[hmb];rfl,by rw[hmb];exact hf,qS⟩
  ·
   have hinf:F t≠INF:=by rw[← hnt,← hset];exact hc1
   refine zK (zL (zU (zG ?_)))
   refine yA ?_
   refine zR 1 rfl (zN ?_)
   refine WE.again (t+1) (⟨by omega,fun j hj=>by
    by_cases e:j=t
    ·subst e;exact hinf
    ·exact hni j (by omega)⟩) (by(try dsimp only);omega) ⟨rfl,rfl,rfl,rfl,rfl,rfl,rfl,rfl,rfl⟩ (RLe.refl _) (by dsimp only[setAll,List.set_cons_zero,List.set_cons_succ];rw[← hset];exact qS)
 ·
  obtain rfl:t=S+P:=by omega
  refine zX ?_
  refine wx (wx (zY (zU ?_)))
  rw[partV_all]
  refine W.freeze (enc:=encI) (xs:=fvals F (S+P)) 0 rfl ?_
  intro R1 hR1 hz
  have hmi:=infAt_none (F:=F) (n:=S+P) hni
  have hlp:1≤(leastL ((fvals F (S+P)).drop S) I)∧(leastL ((fvals F (S+P)).drop S) I)≤P:=by
   have:=leastL_pos (v:=(fvals F (S+P)).drop S) (inc:=I) (by simp[fvals_len];omega)
   simp only[List.length_drop,fvals_len] at this
   omega
  have hvb:∀ x∈fvals F (S+P),0≤x∧x≤1000000000000000:=all_of_nth (fun j hj=>by
   rw[fvals_len] at hj
   rw[fvals_nth F hj]
   exact(hFb j hj).resolve_left (hni j hj))
  have hvn:∀ j,j<S+P→0≤nth (fvals F (S+P)) j∧nth (fvals F (S+P)) j≤1000000000000000:=fun j hj=>hvb _ (nth_mem (by rw[fvals_len];exact hj))
  have hIp:0≤I*((leastL ((fvals F (S+P)).drop S) I):Int)∧I*((leastL ((fvals F (S+P)).drop S) I):Int)≤1000000000000*10000:=⟨Int.mul_nonneg hI.1 (by omega),Int.mul_le_mul hI.2 (by omega) (by omega) (by omega)⟩
  have hIq:0≤(I*((leastL ((fvals F (S+P)).drop S) I):Int) / (P:Int))∧(I*((leastL ((fvals F (S+P)).drop S) I):Int) / (P:Int))≤1000000000000*10000:=⟨Int.ediv_nonneg hIp.1 (by omega),Int.le_trans (Int.ediv_le_self _ hIp.1) hIp.2⟩
  have hfl:=fvals_len F (S+P)
  refine zQ (zG (zR 2 rfl ?_))
  refine WG.y rfl rfl qD (Yl.sliceL tab_ok rfl rfl rfl rfl rfl rfl (fun _=>rfl) (by intro _;omega)) ?_
  refine zR 1 rfl ?_
  refine WG.callV en187 rfl rfl (by decide) (CallOp.mk' rfl rfl rfl rfl) (fun _=>rfl) (fun hg=>LeastW_V (hz.subL (l:=S) (cap:=S+P) (by rw[fvals_len];omega) (by rw[fvals_len];omega)) (by simp[fvals_len];omega) (by omega) hI (fun x hx=>hvb x (List.mem_of_mem_drop hx))) ?_
  refine zR 1 rfl (zN (zU (zQ (zG (zR 2 rfl ?_)))))
  refine yU ?_
  refine zR 1 rfl ?_
  refine yV ?_
  refine zR 1 rfl (zN (zU (zQ (zB ?_))))
  refine W.loopK (β:=Nat) (fun s=>s≤S∧downL (fvals F (S+P)) (leastL ((fvals F (S+P)).drop S) I) (I*(leastL ((fvals F (S+P)).drop S) I:Int) / (P:Int)) s=downL (fvals F (S+P)) (leastL ((fvals F (S+P)).drop S) I) (I*(leastL ((fvals F (S+P)).drop S) I:Int) / (P:Int)) S) (fun s=>[(1,true,.int .i64 (s:Int))]) [8,10,12,13] [_,_,_,_] [] _ rfl (fun s=>[]) (fun s=>s) (S) (⟨Nat.le_refl _,rfl⟩) ⟨rfl,rfl,rfl,rfl,rfl,rfl⟩ qS ?_
  intro s hst
  dsimp only[zipE,setAll,List.cons_append,List.nil_append,List.set_cons_zero,List.set_cons_succ] at hst ⊢
  obtain⟨hs,hd⟩:=hst
  have hs1:0<s→((s:Int) - 1).toNat=s - 1:=fun _=>by omega
  have hs2:0<s→((s:Int) - 1+((leastL ((fvals F (S+P)).drop S) I):Int)).toNat=s - 1+(leastL ((fvals F (S+P)).drop S) I):=fun _=>by omega
  have hb1:0<s→0≤nth (fvals F (S+P)) ((s:Int) - 1).toNat∧nth (fvals F (S+P)) ((s:Int) - 1).toNat≤1000000000000000:=fun h=>hvn _ (by omega)
  refine zQ (zQ ?_)
  refine W.regionQ _ mixed qK ?_
  refine zR 3 rfl ?_
  refine yP ?_
  refine yP ?_
  refine WG.y rfl rfl (by decide) (Yl.sub rfl rfl rfl qE (by intro hg;(try simp only[zk] at hg);constructor<;>(try dsimp only)<;>omega)) ?_
  refine gX ?_
  refine yJ (r:=by((apply RS.rdC;assumption))) (k:=?_)
  refine yP ?_
  refine WG.y rfl rfl (by decide) (Yl.add rfl rfl rfl qE (by intro hg;(try simp only[zk] at hg);constructor<;>(try dsimp only)<;>omega)) ?_
  refine yP ?_
  refine yP ?_
  refine WG.y rfl rfl (by decide) (Yl.sub rfl rfl rfl qE (by intro hg;(try simp only[zk] at hg);constructor<;>(try dsimp only)<;>omega)) ?_
  refine yP ?_
  refine WG.y rfl rfl (by decide) (Yl.add rfl rfl rfl qE (by intro hg;(try simp only[zk] at hg);constructor<;>(try dsimp only)<;>omega)) ?_
  refine gX ?_
  refine yJ (r:=by((apply RS.rdC;assumption))) (k:=?_)
  refine yP ?_
  refine yN ?_
  refine zN (zU ?_)
  refine cC rfl ?_ ?_<;>intro hc2
  ·try simp only[zk] at hc2
   obtain⟨hc3,hc4⟩:=hc2
   rw[hs1 (by omega),hs2 (by omega)] at hc4
   have hdn:downL (fvals F (S+P)) (leastL ((fvals F (S+P)).drop S) I) (I*((leastL ((fvals F (S+P)).drop S) I):Int) / (P:Int)) (s - 1)=downL (fvals F (S+P)) (leastL ((fvals F (S+P)).drop S) I) (I*((leastL ((fvals F (S+P)).drop S) I):Int) / (P:Int)) s:=by
    conv=>rhs;rw[show s=(s - 1)+1 by omega]
    simp only[downL]
    rw[if_pos hc4]
   refine zK (zU (zB (zG (zR 1 rfl ?_))))
   refine yS ?_
   refine zR 1 rfl (zN (zL ?_))
   refine WE.again (s - 1) (⟨by omega,by rw[← hd];exact hdn⟩) (by(try dsimp only);omega) ⟨vint (by omega),rfl,rfl,rfl,rfl,rfl⟩ (RLe.refl _) qS
  ·try simp only[zk] at hc2
   have hsd:s=downL (fvals F (S+P)) (leastL ((fvals F (S+P)).drop S) I) (I*((leastL ((fvals F (S+P)).drop S) I):Int) / (P:Int)) S:=by
    rw[← hd]
    by_cases h:0<s
    ·have h2:=hc2 (by omega)
     rw[hs1 h,hs2 h] at h2
     obtain⟨s',rfl⟩:∃ m,s=m+1:=⟨s - 1,by omega⟩
     simp only[downL]
     rw[if_neg (by simpa using h2)]
    ·obtain rfl:s=0:=by omega
     rfl
   refine zX ?_
   refine wx (wx (zY (zU (zQ (zQ (zG (zR 3 rfl ?_)))))))
   refine yP ?_
   refine yP ?_
   refine yO ?_
   refine zN (zU ?_)
   refine cC rfl ?_ ?_<;>intro hc3
   ·try simp only[zk] at hc3
    have hmb:mbuild F S P I=(zcv,3):=by
     unfold mbuild finL;rw[if_pos hmi];dsimp only
     rw[if_pos (by rcases hc3 with h|h;exact .inl (by omega);exact .inr h)]
    refine zQ (zG ?_)
    refine yW [] ?_
    refine zE 0 ?_
    refine zR 1 rfl (zN (zU (zT (wt ?_))))
    refine zq4 (by first|exact hR1|exact hR1.trans hR2) ?_
    exact⟨none,0,by rw[hmb];rfl,by rw[hmb];exact rs_nil,qS⟩
   ·try simp only[zk] at hc3
    have hmb:mbuild F S P I=checkedL ((fvals F (S+P)).take (s+(leastL ((fvals F (S+P)).drop S) I))) (leastL ((fvals F (S+P)).drop S) I) (I*((leastL ((fvals F (S+P)).drop S) I):Int) / (P:Int)):=by
     unfold mbuild finL;rw[if_pos hmi];dsimp only
     rw[if_neg (by rintro(h|h);have:=hc3.1;omega;have:=hc3.2;unfold MAXV at h;omega),← hsd]
    refine zK (zU (zQ (zG (zR 3 rfl ?_))))
    refine yA ?_
    refine WG.y rfl rfl qD (Yl.sliceH tab_ok rfl rfl rfl rfl rfl (fun _=>rfl) (by intro _;omega) rfl) ?_
    refine zR 2 rfl ?_
    refine WL.call en188 rfl rfl (by decide) (CallOp.mkT rfl rfl rfl rfl) (Checked_C (by have:=hz.take (s+leastL ((fvals F (S+P)).drop S) I);exact this) (by rw[List.length_take,fvals_len];omega) w0 _) ?_
    rintro _ R2 E2 hR2 ⟨f,fc,rfl,hf,hsub⟩
    refine WL.subE hsub ?_
    unfold cvV
    refine zR 2 rfl ?_
    refine zE 0 ?_
    refine zR 1 rfl (zN (zU (zT ?_)))
    refine zq4 (by first|exact hR1|exact hR1.trans hR2) ?_
    exact⟨f,fc,by rw[hmb];rfl,by rw[hmb];exact hf,qS⟩





theorem CLine_C {R:Ro} {rate:Int} (w0:World) (hr:0≤rate∧rate≤1073741824) (E:List Ent) :
  K.Fn Tryz.prog 200 [.int .i64 rate] w0 R E (fun v R' E'=>∃ g:Nat,v=.tuple #[.agg #[.slice (some ⟨g,0,none⟩) 1 1,.int .i64 1,.int .i64 rate],.int .i64 0]∧R=R'∧(.sl 3 1 (some ⟨g,0,none⟩) 1 ([0].map encI)::E).Sublist E'):=by
 refine fE 13 Tryz.func200 ?_
 refine zQ (zG ?_)
 refine zA fun b2=>?_
 refine zR 1 rfl (zN (zU (zQ (zQ (zG (zR 2 rfl (zN (zU ?_))))))))
 refine cD rfl ?_ ?_<;>intro hc0
 ·
  omega
 ·
  refine zK (zU (zQ (zQ (zG (zR 2 rfl (zN (zU ?_)))))))
  refine cD rfl ?_ ?_<;>intro hc1
  ·
   omega
  ·
   refine zK (zU (zQ (zG ?_)))
   refine WL.ef rfl rfl qD (Ef.buildSliceD (enc:=encI) (parts:=[.const (.int .i64 0)]) [_] tab_ok rfl rfl rfl rfl rfl rfl rfl rfl qD qD (fun a10=>?_))
   refine zR 1 rfl ?_
   refine yW [(0,.tmp 10),(1,.const (.int .i64 1)),(2,.tmp 11)] ?_
   refine zE 1 ?_
   refine zR 1 rfl (zN (zU (zT ?_)))
   refine WE.retF tab_ok [_,_] rfl ⟨⟨_,_,_,rfl,rfl,rfl,(Rd.blk 1 rfl),rfl⟩,rfl,trivial⟩ (RLe.refl _) ?_
   exact⟨a10,rfl,rfl,List.Sublist.cons_cons _ (List.Sublist.cons _ (List.Sublist.refl _))⟩
theorem Serve_ok {R:Ro} {cap:Int} (w0:World) (hr:1≤cap∧cap≤4000) (E:List Ent) :
  K.Fn Tryz.prog 160 [.int .i64 cap] w0 R E (fun v R' E'=>∃ g:Nat,v=.tuple #[.agg #[.slice (some ⟨g,0,none⟩) 1 1,.int .i64 1,.int .i64 cap],.int .i64 0]∧R=R'∧(.sl 3 1 (some ⟨g,0,none⟩) 1 ([0].map encI)::E).Sublist E'):=by
 refine fE 15 Tryz.func160 ?_
 refine zQ (zG ?_)
 refine zA fun b2=>?_
 refine zR 1 rfl (zN (zU (zQ (zQ (zG (zR 3 rfl ?_))))))
 refine yP ?_
 refine yP ?_
 refine yO ?_
 refine zN (zU ?_)
 refine cC rfl ?_ ?_<;>intro hc0
 ·try simp only[zk] at hc0
  omega
 ·try simp only[zk] at hc0
  refine zK (zU (zQ (zG (zR 1 rfl ?_))))
  refine WL.call en200 rfl rfl qD (CallOp.mkT rfl rfl rfl rfl) (CLine_C w0 qO _) ?_
  rintro _ _ E2 - ⟨g,rfl,rfl,hsub⟩
  refine WL.subE hsub ?_
  refine zR 2 rfl ?_
  refine zE 1 ?_
  refine zR 1 rfl (zN (zU (zT ?_)))
  refine WE.retF tab_ok [_,_] rfl ⟨⟨_,_,_,rfl,rfl,rfl,(Rd.blk 1 rfl),rfl⟩,rfl,trivial⟩ (RLe.refl _) ?_
  exact⟨g,rfl,rfl,List.Sublist.cons_cons _ (List.Sublist.cons _ (List.Sublist.refl _))⟩






theorem WAt_V {R:Ro} {fa:Option Addr} {fc:Nat} {F:Nat→Int} {S P:Nat} {I:Int} (hf:FC F S P I) (ha:RS R 1 encI fa (fvals F (S+P))) {t:Nat} (ht:t≤1000000000000000000) (hG:F t≤4000000000000000000):FnV Tryz.prog 109 [.agg #[.slice fa (fvals F (S+P)).length fc,.int .i64 (P:Int),.int .i64 I],.int .i64 (t:Int)] R (.int .i64 (F t)):=by
 have hfl:=fvals_len F (S+P)
 have hP:=hf.hP
 have hn:=hf.hn
 have hI:=hf.hI
 refine Fn.toV (fun w0 E=>?_)
 refine fE 45 Tryz.func109 ?_
 refine zQ (zG ?_)
 refine zO fun b2=>?_
 refine zR 1 rfl (zN (zU (zQ (zG (zR 1 rfl ?_)))))
 refine yM 0 ?_
 refine zR 2 rfl (zN (zU (zQ (zQ (zG (zR 3 rfl (zN (zU ?_))))))))
 refine cD rfl ?_ ?_<;>intro hc0
 ·
  have htl:t<S+P:=by omega
  refine zQ (zG (zR 1 rfl ?_))
  refine yM 0 ?_
  refine zR 1 rfl ?_
  refine yI ?_
  refine yD (r:=by((apply RS.rdD;assumption;((try dsimp only)<;>omega)))) (k:=?_)
  refine zR 1 rfl (zN (zU (zT (wt ?_))))
  refine sE (E:=E) ?_
  refine zr1 ?_
  exact⟨by rw[fvals_nth F htl];rfl,rfl⟩
 ·
  obtain⟨q,hq⟩:=Int.eq_ofNat_of_zero_le (show 0≤((t:Int) - ((fvals F (S+P)).length:Int)) / (P:Int) from Int.ediv_nonneg (by omega) (by omega))
  have hq1:(q:Int)*P≤(t:Int) - (S+P:Nat):=by rw[← hfl,← hq];exact Int.ediv_mul_le _ (by omega)
  have hq2:(t:Int) - (S+P:Nat)<P*(q:Int)+P:=by rw[← hfl,← hq];exact Int.lt_mul_ediv_self_add (by omega)
  rw[Int.mul_comm] at hq2
  have hq3:(q+1)*P=q*P+P:=by rw[Nat.add_mul];omega
  have hq4:((q*P:Nat):Int)=(q:Int)*P:=by rw[Int.natCast_mul]
  have hq5:((q:Int)+1)*(P:Int)=(((q+1)*P:Nat):Int):=by rw[Int.natCast_mul];rfl
  have hqle:q≤t:=Nat.le_trans (Nat.le_mul_of_pos_right q (show 0<P by omega)) (by omega)
  have hgm:=hf.hg.mul (q+1) (t - (q+1)*P) (by omega)
  rw[show t - (q+1)*P+(q+1)*P=t by omega,show ((q+1:Nat):Int)=(q:Int)+1 from rfl] at hgm
  have hF0:=hf.nonneg (t - (q+1)*P)
  have hF1:=hf.fin (t:=t - (q+1)*P) (by omega)
  have hqI:0≤((q:Int)+1)*I:=Int.mul_nonneg (by omega) (by omega)
  refine zK (zU (zQ (zG (zR 2 rfl ?_))))
  refine yS ?_
  refine zR 1 rfl ?_
  refine yM 0 ?_
  refine yV ?_
  refine yA ?_
  refine zR 1 rfl (zN (zU ?_))
  rw[hq]
  refine zQ (zG (zR 1 rfl ?_))
  refine yM 0 ?_
  refine zR 3 rfl ?_
  refine yM 0 ?_
  refine yU ?_
  refine yS ?_
  rw[hq5,show (t:Int) - (((q+1)*P:Nat):Int)=((t - (q+1)*P:Nat):Int) by omega]
  refine yI ?_
  refine yD (r:=by((apply RS.rdD;assumption;((try dsimp only)<;>omega)))) (k:=?_)
  refine zR 1 rfl (zN (zU (zQ ?_)))
  rw[fvals_nth F (show t - (q+1)*P<S+P by omega)]
  refine zQ (zG (zR 2 rfl (zN (zU ?_))))
  refine cE rfl ?_ ?_<;>intro hc1
  ·
   exact absurd hc1 hF1
  ·
   refine zK (zU (zQ (zG (zR 3 rfl ?_))))
   refine yM 0 ?_
   refine yU ?_
   refine yA ?_
   refine zR 1 rfl (zN (zU (zT ?_)))
   refine sE (E:=E) ?_
   refine zr1 ?_
   exact⟨by rw[hgm];rfl,rfl⟩

theorem CloneI_C {R:Ro} {fa:Option Addr} {fc:Nat} {xs:List Int} (ha:RS R 1 encI fa xs) (hx:0<xs.length) (hl:xs.length≤100000) (w0:World) (E:List Ent):K.Fn Tryz.prog 111 [.slice fa xs.length fc] w0 R E (fun v R' E'=>∃ (a2:Option Addr) (c2:Nat),v=.slice a2 xs.length c2∧R=R'∧(.sl 3 1 a2 c2 (xs.map encI)::E).Sublist E'):=by
 have hns:=ha.some hx
 refine fE 8 Tryz.func111 ?_
 refine zQ (zG (zR 1 rfl (zN (zU (zQ (zQ (zG (zR 1 rfl ?_))))))))
 refine WG.y rfl rfl qD (Yl.eqNilS Tryz.underlying22 rfl rfl rfl (fun _=>rfl)) ?_
 refine zN (zU ?_)
 refine cC rfl ?_ ?_<;>intro hc0
 ·try simp only[zk] at hc0
  rw[hns] at hc0;cases hc0
 ·try simp only[zk] at hc0
  refine zK (zU (zQ (zG ?_)))
  refine WL.ef rfl rfl qD (Ef.buildSliceD (enc:=encI) (parts:=[]) [] tab_ok rfl rfl rfl rfl rfl rfl rfl rfl qD qD (fun a5=>?_))
  refine zR 1 rfl ?_
  refine WL.ef rfl rfl qD (Ef.cloneL (enc:=encI) 0 tab_ok rfl rfl rfl rfl rfl rfl rfl rfl rfl rfl ha (fun _ _=>rfl) (by dsimp only;omega) qO (fun a7 c7 ha7=>?_))
  refine zR 1 rfl (zN (zU (zT ?_)))
  refine zr1 ?_
  exact⟨_,_,rfl,rfl,qS⟩

theorem WAtG_V {R:Ro} {fa:Option Addr} {fc:Nat} {c:Cv} (hv:validB c=true) (ha:RS R 1 encI fa c.vals) {t:Nat} (ht:t≤1000000000):FnV Tryz.prog 109 [.agg #[.slice fa c.vals.length fc,.int .i64 c.per,.int .i64 c.inc],.int .i64 (t:Int)] R (.int .i64 (cvF c t)):=by
 refine Fn.toV (fun w0 E=>?_)
 obtain⟨hr1,hr2,hr3,hr4,hr5,hr6,hr7,hr8⟩:=valid_range hv
 refine fE 45 Tryz.func109 ?_
 refine zQ (zG ?_)
 refine zO fun b2=>?_
 refine zR 1 rfl (zN (zU (zQ (zG (zR 1 rfl ?_)))))
 refine yM 0 ?_
 refine zR 2 rfl (zN (zU (zQ (zQ (zG (zR 3 rfl (zN (zU ?_))))))))
 refine cD rfl ?_ ?_<;>intro hc0
 ·
  have htl:t<c.vals.length:=by omega
  refine zQ (zG (zR 1 rfl ?_))
  refine yM 0 ?_
  refine zR 1 rfl ?_
  refine yI ?_
  refine yD (r:=by((apply RS.rdD;assumption;((try dsimp only)<;>omega)))) (k:=?_)
  refine zR 1 rfl (zN (zU (zT (wt ?_))))
  refine sE (E:=E) ?_
  refine zr1 ?_
  exact⟨by rw[cvF_low htl];rfl,rfl⟩
 ·
  obtain⟨P,hP⟩:=Int.eq_ofNat_of_zero_le (show 0≤c.per by omega)
  have hPn:1≤P∧P≤c.vals.length:=by omega
  obtain⟨j1,j2,j3⟩:=cvJ_at hPn (show c.vals.length≤t by omega)
  have hcv:=cvF_high hP hPn (show c.vals.length≤t by omega)
  generalize hq:(t - c.vals.length) / P=q at j3 hcv
  have hq1:((t:Int) - (c.vals.length:Int)) / c.per=(q:Int):=by rw[hP,show (t:Int) - (c.vals.length:Int)=((t - c.vals.length:Nat):Int) by omega,← hq];rfl
  have hq5:((q:Int)+1)*c.per=(((q+1)*P:Nat):Int):=by rw[hP,Int.natCast_mul];rfl
  have hj:(t:Int) - (((q+1)*P:Nat):Int)=(cvJ c.vals.length P t:Int):=by omega
  have hqt:q+1≤t:=Nat.le_trans (Nat.le_mul_of_pos_right (q+1) (show 0<P by omega)) (by omega)
  have hve:=valid_each hv _ j2
  have hqI:=mulB (a:=(q:Int)+1) (b:=c.inc) (A:=1000000000) (B:=1073741824) (by omega) (by omega)
  refine zK (zU (zQ (zG (zR 2 rfl ?_))))
  refine yS ?_
  refine zR 1 rfl ?_
  refine yM 0 ?_
  refine yV ?_
  refine yA ?_
  refine zR 1 rfl (zN (zU ?_))
  rw[hq1]
  refine zQ (zG (zR 1 rfl ?_))
  refine yM 0 ?_
  refine zR 3 rfl ?_
  refine yM 0 ?_
  refine yU ?_
  refine yS ?_
  rw[hq5,hj]
  refine yI ?_
  refine yD (r:=by((apply RS.rdD;assumption;((try dsimp only)<;>omega)))) (k:=?_)
  refine zR 1 rfl (zN (zU (zQ (zQ (zG (zR 2 rfl (zN (zU ?_))))))))
  refine cE rfl ?_ ?_<;>intro hc1
  ·
   have hcv:cvF c t=4611686018427387904:=by rw[hcv,if_pos (show _=INF from hc1)];rfl
   refine zQ (zG (zR 2 rfl (zN (zU (zT (wt ?_))))))
   refine sE (E:=E) ?_
   refine zr1 ?_
   exact⟨by rw[hcv,hc1];rfl,rfl⟩
  ·
   have hvm:=hve.resolve_left hc1
   unfold MAXV at hvm
   rw[if_neg (show ¬ _=INF from hc1),show ((q+1:Nat):Int)=(q:Int)+1 from rfl] at hcv
   refine zK (zU (zQ (zG (zR 3 rfl ?_))))
   refine yM 0 ?_
   refine yU ?_
   refine yA ?_
   refine zR 1 rfl (zN (zU (zT ?_)))
   refine sE (E:=E) ?_
   refine zr1 ?_
   exact⟨by rw[hcv];rfl,rfl⟩
theorem WFiniteG_V {R:Ro} {fa:Option Addr} {fc:Nat} {c:Cv} (hv:validB c=true) (ha:RS R 1 encI fa c.vals):FnV Tryz.prog 103 [.agg #[.slice fa c.vals.length fc,.int .i64 c.per,.int .i64 c.inc]] R (.bool (finB c)):=by
 refine Fn.toV (fun w0 E=>?_)
 obtain⟨hr1,hr2,hr3,hr4,hr5,hr6,hr7,hr8⟩:=valid_range hv
 have hl:((c.vals.length:Int) - 1).toNat=c.vals.length - 1:=by omega
 refine fE 12 Tryz.func103 ?_
 refine zQ (zG ?_)
 refine zO fun b1=>?_
 refine zR 1 rfl (zN (zU (zQ (zG (zR 1 rfl ?_)))))
 refine yM 0 ?_
 refine zR 1 rfl ?_
 refine yM 0 ?_
 refine zR 1 rfl ?_
 refine yS ?_
 refine yX ?_
 refine yD (r:=by((apply RS.rdD;assumption;((try dsimp only)<;>omega)))) (k:=?_)
 refine zR 2 rfl (zN (zU (zT ?_)))
 refine sE (E:=E) ?_
 refine zr1 ?_
 exact⟨by rw[hl];rfl,rfl⟩
theorem WStartG_V {R:Ro} {fa:Option Addr} {fc:Nat} {c:Cv} (hv:validB c=true) (ha:RS R 1 encI fa c.vals):FnV Tryz.prog 143 [.agg #[.slice fa c.vals.length fc,.int .i64 c.per,.int .i64 c.inc]] R (.int .i64 (stN c:Int)):=by
 refine Fn.toV (fun w0 E=>?_)
 obtain⟨hr1,hr2,hr3,hr4,hr5,hr6,hr7,hr8⟩:=valid_range hv
 have hl:(c.vals.length:Int) - c.per=(stN c:Int):=by unfold stN;omega
 refine fE 9 Tryz.func143 ?_
 refine zQ (zG ?_)
 refine zO fun b1=>?_
 refine zR 1 rfl (zN (zU (zQ (zG (zR 1 rfl ?_)))))
 refine yM 0 ?_
 refine zR 2 rfl ?_
 refine yM 0 ?_
 refine yS ?_
 refine zR 1 rfl (zN (zU (zT ?_)))
 refine sE (E:=E) ?_
 refine zr1 ?_
 exact⟨by rw[hl];rfl,rfl⟩
theorem WGainG_V {R:Ro} {fa:Option Addr} {fc:Nat} {c:Cv} (hv:validB c=true) (ha:RS R 1 encI fa c.vals) {L:Nat} (hL:L≤100000):FnV Tryz.prog 180 [.agg #[.slice fa c.vals.length fc,.int .i64 c.per,.int .i64 c.inc],.int .i64 (L:Int)] R (.int .i64 (gainC c L)):=by
 refine Fn.toV (fun w0 E=>?_)
 obtain⟨hr1,hr2,hr3,hr4,hr5,hr6,hr7,hr8⟩:=valid_range hv
 have hd0:0≤(L:Int) / c.per:=Int.ediv_nonneg (by omega) (by omega)
 have hd1:(L:Int) / c.per≤L:=Int.ediv_le_self _ (by omega)
 have hd2:=mulB (a:=(L:Int) / c.per) (b:=c.inc) (A:=100000) (B:=1073741824) (by omega) (by omega)
 refine fE 12 Tryz.func180 ?_
 refine zQ (zG ?_)
 refine zO fun b2=>?_
 refine zR 1 rfl (zN (zU (zQ ?_)))
 refine W.regionQ _ mixed qK ?_
 refine zR 2 rfl ?_
 refine yM 0 ?_
 refine yV ?_
 refine zR 1 rfl ?_
 refine yM 0 ?_
 refine yU ?_
 refine zR 1 rfl (zN (zU (zT ?_)))
 refine sE (E:=E) ?_
 refine zr1 ?_
 exact⟨rfl,rfl⟩
theorem PGainG_V {R:Ro} {fa:Option Addr} {fc:Nat} {c:Cv} (hv:validB c=true) (ha:RS R 1 encI fa c.vals) {L:Nat} (hL:L≤100000):FnV Tryz.prog 155 [.agg #[.slice fa c.vals.length fc,.int .i64 c.per,.int .i64 c.inc],.int .i64 (L:Int)] R (.int .i64 (gainC c L)):=by
 refine Fn.toV (fun w0 E=>?_)
 obtain⟨hr1,hr2,hr3,hr4,hr5,hr6,hr7,hr8⟩:=valid_range hv
 have hd0:0≤(L:Int) / c.per:=Int.ediv_nonneg (by omega) (by omega)
 have hd1:(L:Int) / c.per≤L:=Int.ediv_le_self _ (by omega)
 have hd2:=mulB (a:=(L:Int) / c.per) (b:=c.inc) (A:=100000) (B:=1073741824) (by omega) (by omega)
 refine fE 12 Tryz.func155 ?_
 refine zQ (zG ?_)
 refine zO fun b2=>?_
 refine zR 1 rfl (zN (zU (zQ ?_)))
 refine W.regionQ _ mixed qK ?_
 refine zR 2 rfl ?_
 refine yM 0 ?_
 refine yV ?_
 refine zR 1 rfl ?_
 refine yM 0 ?_
 refine yU ?_
 refine zR 1 rfl (zN (zU (zT ?_)))
 refine sE (E:=E) ?_
 refine zr1 ?_
 exact⟨rfl,rfl⟩
theorem WPlus_V {R:Ro} {x y:Int} (hx:x=4611686018427387904∨(-1000000000000000000≤x∧x≤1000000000000000000)) (hy:y=4611686018427387904∨(-1000000000000000000≤y∧y≤1000000000000000000)):FnV Tryz.prog 148 [.int .i64 x,.int .i64 y] R (.int .i64 (if x=4611686018427387904∨y=4611686018427387904 then 4611686018427387904 else x+y)):=by
 refine Fn.toV (fun w0 E=>?_)
 refine fE 14 Tryz.func148 ?_
 refine zQ (zG (zR 1 rfl (zN (zU (zQ (zQ (zG (zR 3 rfl ?_))))))))
 refine yP ?_
 refine yP ?_
 refine yO ?_
 refine zN (zU ?_)
 refine cC rfl ?_ ?_<;>intro hc0
 ·try simp only[zk] at hc0
  rw[if_pos hc0]
  refine zQ (zG (zR 1 rfl (zN (zU (zT (wt ?_))))))
  refine sE (E:=E) ?_
  refine zr1 ?_
  exact⟨rfl,rfl⟩
 ·try simp only[zk] at hc0
  have hno:¬ (x=4611686018427387904∨y=4611686018427387904):=by omega
  rw[if_neg hno]
  refine zK (zU (zQ (zG (zR 2 rfl ?_))))
  refine yA ?_
  refine zR 1 rfl (zN (zU (zT ?_)))
  refine sE (E:=E) ?_
  refine zr1 ?_
  exact⟨rfl,rfl⟩
theorem CValidG_V {R:Ro} {fa:Option Addr} {fc:Nat} {c:Cv} (ha:RS R 1 encI fa c.vals) (hl:c.vals.length≤100000):FnV Tryz.prog 71 [.agg #[.slice fa c.vals.length fc,.int .i64 c.per,.int .i64 c.inc]] R (.bool (validB c)):=by
 refine Fn.toV (fun w0 E=>?_)
 refine fE 85 Tryz.func71 ?_
 refine zQ (zG ?_)
 refine zO fun b1=>?_
 refine zR 1 rfl (zN (zU (zQ (zG (zR 1 rfl ?_)))))
 refine yM 0 ?_
 refine zR 2 rfl (zN (zU (zQ (zQ (zG (zR 3 rfl ?_))))))
 refine yP ?_
 refine yP ?_
 refine yO ?_
 refine zR 1 rfl ?_
 refine yP ?_
 refine yG (Rd.addC (Rd.blkC 0 rfl) _) ?_
 refine yP ?_
 refine yO ?_
 refine zR 1 rfl ?_
 refine yP ?_
 refine yG (Rd.addC (Rd.blkC 0 rfl) _) ?_
 refine yP ?_
 refine yO ?_
 refine zR 1 rfl ?_
 refine yP ?_
 refine yG (Rd.addC (Rd.blkC 0 rfl) _) ?_
 refine yP ?_
 refine yP ?_
 refine yO ?_
 refine zR 1 rfl ?_
 refine yP ?_
 refine yG (Rd.addC (Rd.blkC 0 rfl) _) ?_
 refine yP ?_
 refine yO ?_
 refine zR 1 rfl ?_
 refine yP ?_
 refine yG (Rd.addC (Rd.blkC 0 rfl) _) ?_
 refine yP ?_
 refine yO ?_
 refine zN (zU ?_)
 refine cC rfl ?_ ?_<;>intro hc0
 ·try simp only[zk] at hc0
  have hno:validB c=false:=validB_false (fun h=>by obtain⟨⟨a1,a2,a3,a4,a5,a6,a7⟩,_⟩:=h;unfold MAXV at a7;omega)
  refine zQ (zG (zR 1 rfl (zN (zU (zT (wt ?_))))))
  refine sE (E:=E) ?_
  refine zr1 ?_
  exact⟨by rw[hno];rfl,rfl⟩
 ·try simp only [zk] at hc0
  have hall:1≤c.vals.length∧c.vals.length≤400∧1≤c.per∧c.per≤120∧c.per≤c.vals.length∧0≤c.inc∧c.inc≤MAXV:=by unfold MAXV;omega
  refine zK (zU (zQ (zG (zR 1 rfl (zN (zU (zQ (zQ (zG (zR 1 rfl ?_))))))))))
  refine yM 0 ?_
  refine zR 2 rfl (zN (zU (zB ?_)))
  refine W.loopK (β:=Nat) (fun t=>t≤c.vals.length∧∀ i,i<t→(nth c.vals i=INF∨(0≤nth c.vals i∧nth c.vals i≤MAXV))∧(i=0∨nth c.vals (i - 1)≤nth c.vals i)) (fun t=>[(4,true,.int .i64 (lastV c.vals t)),(45,true,.int .i64 (t:Int))]) [1,3,43,44] [_,_,_,_] [] _ rfl (fun t=>[]) (fun t=>c.vals.length - t) (0) (⟨Nat.zero_le _,fun i hi=>by omega⟩) ⟨rfl,rfl,rfl,rfl,rfl,rfl,rfl⟩ qS ?_
  intro t hst
  have hlast:0≤lastV c.vals t∧(lastV c.vals t=INF∨lastV c.vals t≤MAXV):=by
   unfold lastV
   by_cases h:t=0
   ·rw[if_pos h];exact⟨Int.le_refl _,.inr (by decide)⟩
   ·rw[if_neg h]
    have:=(hst.2 (t - 1) (by omega)).1
    unfold INF MAXV at this ⊢
    omega
  refine zQ (zG (zR 1 rfl (zN (zU (zQ ?_)))))
  refine cD rfl ?_ ?_<;>intro hc1
  ·
   have htl:t<c.vals.length:=by omega
   refine zK (zU (zQ (zB (zQ (zG ?_)))))
   refine yI ?_
   refine yD (r:=by((apply RS.rdD;assumption;((try dsimp only)<;>omega)))) (k:=?_)
   refine zR 1 rfl (zN (zU (zQ (zQ (zG (zR 4 rfl ?_))))))
   refine yP ?_
   refine yP ?_
   refine yP ?_
   refine yP ?_
   refine yP ?_
   refine yN ?_
   refine yO ?_
   refine zN (zU ?_)
   refine cC rfl ?_ ?_<;>intro hc2
   ·try simp only[zk] at hc2
    have hno:validB c=false:=validB_false (fun h=>by
     have h2:=h.2.1 t htl
     unfold lastV at hc2
     unfold INF MAXV at h2
     rcases hc2 with x|x
     ·split at x
      ·omega
      ·have:=h2.2.resolve_left (by omega)
       omega
     ·omega)
    refine zQ (zG (zR 1 rfl (zN (zU (zT (wt (wb (wt (wt (wb (wt ?_)))))))))))
    refine sE (E:=E) ?_
    refine zr1 ?_
    exact⟨by rw[hno];rfl,rfl⟩
   ·try simp only[zk] at hc2
    have hy:(nth c.vals t=INF∨(0≤nth c.vals t∧nth c.vals t≤MAXV))∧(t=0∨nth c.vals (t - 1)≤nth c.vals t):=by
     unfold INF MAXV
     have hle:lastV c.vals t≤nth c.vals t:=by omega
     refine⟨by omega,?_⟩
     unfold lastV at hle
     by_cases h:t=0
     ·exact .inl h
     ·rw[if_neg h] at hle;exact .inr hle
    refine zK (zU (zG (zR 2 rfl (zN (zL (zU (zG ?_)))))))
    refine yA ?_
    refine zR 1 rfl (zN ?_)
    refine WE.again (t+1) (⟨by omega,fun i hi=>by
     by_cases e:i=t
     ·subst e;exact hy
     ·exact hst.2 i (by omega)⟩) (by(try dsimp only);omega) ⟨vint (lastV_succ _ _),rfl,rfl,rfl,rfl,rfl,rfl⟩ (RLe.refl _) qS
  ·
   obtain rfl:t=c.vals.length:=by omega
   obtain⟨P,hP⟩:=Int.eq_ofNat_of_zero_le (show 0≤c.per by omega)
   have hlv:lastV c.vals c.vals.length=nth c.vals (c.vals.length - 1):=if_neg (by omega)
   have e3:((c.vals.length:Int) - c.per).toNat=c.vals.length - c.per.toNat:=by omega
   refine zX ?_
   refine wx (wx (zY (zU (zQ (zQ (zG (zR 2 rfl (zN (zU ?_)))))))))
   refine cE rfl ?_ ?_<;>intro hc3
   ·
    have hif:(if nth c.vals (c.vals.length - 1)=INF then c.per=1∧c.inc=0 else nth c.vals (c.vals.length - 1)≤nth c.vals (c.vals.length - c.per.toNat)+c.inc)↔(c.per=1∧c.inc=0):=by rw[if_pos (by rw[← hlv];exact hc3)]
    refine zQ (zG (zR 1 rfl ?_))
    refine yM 0 ?_
    refine zR 2 rfl ?_
    refine yP ?_
    refine yG (Rd.addC (Rd.blkC 0 rfl) _) ?_
    refine yP ?_
    refine yN ?_
    refine zR 1 rfl (zN (zU (zT (wt ?_))))
    refine sE (E:=E) ?_
    refine zr1 ?_
    refine⟨congrArg Value.bool ?_,rfl⟩
    rw[Bool.eq_iff_iff,validB_iff,hif]
    simp only[Bool.and_eq_true,beq_iff_eq]
    exact⟨fun h=>⟨hall,fun j hj=>hst.2 j hj,h⟩,fun h=>h.2.2⟩
   ·
    have hif:(if nth c.vals (c.vals.length - 1)=INF then c.per=1∧c.inc=0 else nth c.vals (c.vals.length - 1)≤nth c.vals (c.vals.length - c.per.toNat)+c.inc)↔(nth c.vals (c.vals.length - 1)≤nth c.vals (c.vals.length - c.per.toNat)+c.inc):=by rw[if_neg (by rw[← hlv];exact hc3)]
    have hx2:=(hst.2 (c.vals.length - c.per.toNat) (by omega)).1
    rw[← e3] at hx2
    unfold INF MAXV at hx2 hall
    refine zK (zU (zQ ?_))
    refine W.regionQ _ mixed qK ?_
    refine zR 1 rfl ?_
    refine yM 0 ?_
    refine zR 2 rfl ?_
    refine yM 0 ?_
    refine yS ?_
    refine yX ?_
    refine yD (r:=by((apply RS.rdD;assumption;((try dsimp only)<;>omega)))) (k:=?_)
    refine zR 1 rfl ?_
    refine yM 0 ?_
    refine yA ?_
    refine zR 3 rfl (zN (zU (zT ?_)))
    refine sE (E:=E) ?_
    refine zr1 ?_
    refine⟨congrArg Value.bool ?_,rfl⟩
    rw[Bool.eq_iff_iff,validB_iff,hif,e3,hlv]
    simp only[decide_eq_true_eq]
    exact⟨fun h=>⟨by unfold MAXV;omega,fun j hj=>hst.2 j hj,by omega⟩,fun h=>by have:=h.2.2;omega⟩
theorem NormG_V {R:Ro} {fa:Option Addr} {fc:Nat} {c:Cv} (hv:validB c=true) (ha:RS R 1 encI fa c.vals) {b1:Nat} (h1:R b1=some [.slice fa c.vals.length fc,.int .i64 c.per,.int .i64 c.inc]) {t:Nat} (ht:t≤1000000):FnV Tryz.prog 185 [.int .i64 (t:Int),.pointer (some ⟨b1,0,none⟩)] R (.int .i64 (cvF c t)):=by
 refine Fn.toV (fun w0 E=>?_)
 refine fE 7 Tryz.func185 ?_
 refine zQ (zG (zR 1 rfl (zN (zU (zQ (zG ?_))))))
 refine yD (r:=by(exact Rd.ro qU)) (k:=?_)
 refine zR 1 rfl ?_
 refine WG.callV en109 rfl rfl qD (CallOp.mk' rfl rfl rfl rfl) (fun _=>rfl) (fun hg=>WAtG_V hv ha qO) ?_
 refine zR 1 rfl (zN (zU (zT ?_)))
 refine sE (E:=E) ?_
 refine zr1 ?_
 exact⟨rfl,rfl⟩
theorem CNormalG_C {R:Ro} {fa:Option Addr} {fc:Nat} {c:Cv} (ha:RS R 1 encI fa c.vals) (hl:c.vals.length≤100000) (w0:World) (E:List Ent):K.Fn Tryz.prog 141 [.agg #[.slice fa c.vals.length fc,.int .i64 c.per,.int .i64 c.inc]] w0 R E (fun r R' E'=>∃ (f:Option Addr) (fc:Nat),r=cvV f fc (normC c)∧RS R' 1 encI f (normC c).1.vals∧E.Sublist E'):=by
 refine fE 22 Tryz.func141 ?_
 refine zQ (zG ?_)
 refine zO fun b1=>?_
 refine zA fun b2=>?_
 refine zR 1 rfl (zN (zU (zQ (zQ (zG ?_)))))
 refine yB 1 ?_
 refine WG.callV en71 rfl rfl qD (CallOp.mk' rfl rfl rfl rfl) (fun _=>rfl) (fun hg=>CValidG_V ha hl) ?_
 refine zR 1 rfl (zN (zU ?_))
 refine cC rfl ?_ ?_<;>intro hc0
 ·try simp only[zk] at hc0
  have hn:normC c=(zcv,1):=if_neg (by simp[hc0])
  refine zQ (zG ?_)
  refine yW [] ?_
  refine zE 0 ?_
  refine zR 1 rfl (zN (zU (zT (wt ?_))))
  refine zq4 (by first|exact hR1.trans (hR2.trans hR4)|exact RLe.refl _) ?_
  exact⟨none,0,by rw[hn];rfl,by rw[hn];exact rs_nil,qS⟩
 ·try simp only[zk] at hc0
  have hv:validB c=true:=by simpa using hc0
  have hn:normC c=(normR c,0):=if_pos hv
  obtain⟨hr1,hr2,hr3,hr4,hr5,hr6,hr7,hr8⟩:=valid_range hv
  have hst:=stN_lt hv
  refine zK (zU (zQ (zG (zR 1 rfl ?_))))
  refine yM 1 ?_
  refine WL.call en111 rfl rfl qD (CallOp.mkT rfl rfl rfl rfl) (CloneI_C ha qO qO w0 _) ?_
  rintro _ _ E2 - ⟨a2,c2,rfl,rfl,hsub⟩
  refine WL.subE hsub ?_
  refine zR 1 rfl ?_
  refine zF 2 ?_
  refine zN (zU ?_)
  refine W.freeze (enc:=encI) (xs:=c.vals) 0 rfl ?_
  intro R1 hR1 ha1
  refine W.freezeBlk 1 rfl ?_
  intro R2 hR2 hb1
  have ha2:=ha1.mono hR2
  have hperI:((c.per.toNat:Nat):Int)=c.per:=by omega
  have hF:∀ t:Nat,t<stN c+c.per.toNat→FnV Tryz.prog 185 ((#[]:Array Value).toList++[.int .i64 (t:Int)]++(#[.pointer (some ⟨b1,0,none⟩)]:Array Value).toList) R2 (.int .i64 (cvF c t)):=fun t ht=>NormG_V hv ha2 hb1 (by omega)
  refine zQ ?_
  refine W.regionH _ (ES:=[]) mixed ?_
  refine WA.take 0 rfl qK qK qK rfl rfl qD (Yl.makeFunc (fi:=[]) (ca:=[.tmp 1]) rfl rfl rfl (fun _=>rfl)) qS qR ?_
  refine tD 1 (r:=by(exact Rd.ro qU)) (k:=?_)
  refine tP 3 ?_
  refine tD 4 (r:=by apply Rd.add;(exact Rd.ro qU)) (k:=?_)
  refine tP 5 ?_
  refine tD 6 (r:=by apply Rd.add;(exact Rd.ro qU)) (k:=?_)
  refine WA.callG 2 rfl qK en143 rfl (by first|rfl|decide) rfl qD (CallOp.mkT rfl rfl rfl rfl) ((WStartG_V hv ha2).toFn) ?_
  rintro _ _ _ - ⟨rfl,rfl,rfl⟩
  refine⟨qR,qS,?_⟩
  refine WA.callG 7 rfl qK en144 rfl (by first|rfl|decide) rfl qD (CallOp.mkT rfl rfl rfl rfl) (hperI ▸ Build_C (S:=stN c) (P:=c.per.toNat) (F:=cvF c) en185 qO qO qO (fun t ht=>(cvF_bound hv t).2.imp id (fun h=>⟨(cvF_bound hv t).1,by omega⟩)) hF w0 _) ?_
  rintro _ R4 E4 hR4 ⟨f,fc',rfl,hff,hsub⟩
  refine⟨hR4,List.nil_sublist _,?_⟩
  refine WA.subE hsub ?_
  rw[norm_build hv] at hff ⊢
  unfold cvV
  refine tP 8 ?_
  refine tP 9 ?_
  refine zCE 10 0 ?_
  refine tP 11 ?_
  refine WA.done qK ?_
  refine zU (zT ?_)
  refine zq4 (by first|exact hR1.trans (hR2.trans hR4)|exact RLe.refl _) ?_
  exact⟨f,fc',by rw[hn];rfl,by rw[hn];exact hff,qS⟩
theorem CNormalV_C {R:Ro} {fa:Option Addr} {fc:Nat} {c:Cv} (hv:validB c=true) (ha:RS R 1 encI fa c.vals) (w0:World) (E:List Ent):K.Fn Tryz.prog 141 [.agg #[.slice fa c.vals.length fc,.int .i64 c.per,.int .i64 c.inc]] w0 R E (fun r R' E'=>∃ (f:Option Addr) (fc:Nat),r=cvV f fc (normR c,0)∧RS R' 1 encI f ((normR c,(0:Int))).1.vals∧E.Sublist E'):=by
 have h:=CNormalG_C (fc:=fc) ha (by have:=valid_range hv;omega) w0 E
 rw[show normC c=(normR c,0) from if_pos hv] at h
 exact h

theorem CValidX_V {R:Ro} {fa:Option Addr} {fc:Nat} {c:Cv} (ha:RS R 1 encI fa c.vals):FnV Tryz.prog 71 [.agg #[.slice fa c.vals.length fc,.int .i64 c.per,.int .i64 c.inc]] R (.bool (validB c)):=by
 refine Fn.toV (fun w0 E=>?_)
 refine fE 85 Tryz.func71 ?_
 refine zQ (zG ?_)
 refine zO fun b1=>?_
 refine zR 1 rfl (zN (zU (zQ (zG (zR 1 rfl ?_)))))
 refine yM 0 ?_
 refine zR 2 rfl (zN (zU (zQ (zQ (zG (zR 3 rfl ?_))))))
 refine yP ?_
 refine yP ?_
 refine yO ?_
 refine zR 1 rfl ?_
 refine yP ?_
 refine yG (Rd.addC (Rd.blkC 0 rfl) _) ?_
 refine yP ?_
 refine yO ?_
 refine zR 1 rfl ?_
 refine yP ?_
 refine yG (Rd.addC (Rd.blkC 0 rfl) _) ?_
 refine yP ?_
 refine yO ?_
 refine zR 1 rfl ?_
 refine yP ?_
 refine yG (Rd.addC (Rd.blkC 0 rfl) _) ?_
 refine yP ?_
 refine yP ?_
 refine yO ?_
 refine zR 1 rfl ?_
 refine yP ?_
 refine yG (Rd.addC (Rd.blkC 0 rfl) _) ?_
 refine yP ?_
 refine yO ?_
 refine zR 1 rfl ?_
 refine yP ?_
 refine yG (Rd.addC (Rd.blkC 0 rfl) _) ?_
 refine yP ?_
 refine yO ?_
 refine zN (zU ?_)
 refine cC rfl ?_ ?_<;>intro hc0
 ·try simp only[zk] at hc0
  have hno:validB c=false:=validB_false (fun h=>by obtain⟨⟨a1,a2,a3,a4,a5,a6,a7⟩,_⟩:=h;unfold MAXV at a7;omega)
  refine zQ (zG (zR 1 rfl (zN (zU (zT (wt ?_))))))
  refine sE (E:=E) ?_
  refine zr1 ?_
  exact⟨by rw[hno];rfl,rfl⟩
 ·try simp only [zk] at hc0
  have hall:1≤c.vals.length∧c.vals.length≤400∧1≤c.per∧c.per≤120∧c.per≤c.vals.length∧0≤c.inc∧c.inc≤MAXV:=by unfold MAXV;omega
  refine zK (zU (zQ (zG (zR 1 rfl (zN (zU (zQ (zQ (zG (zR 1 rfl ?_))))))))))
  refine yM 0 ?_
  refine zR 2 rfl (zN (zU (zB ?_)))
  refine W.loopK (β:=Nat) (fun t=>t≤c.vals.length∧∀ i,i<t→(nth c.vals i=INF∨(0≤nth c.vals i∧nth c.vals i≤MAXV))∧(i=0∨nth c.vals (i - 1)≤nth c.vals i)) (fun t=>[(4,true,.int .i64 (lastV c.vals t)),(45,true,.int .i64 (t:Int))]) [1,3,43,44] [_,_,_,_] [] _ rfl (fun t=>[]) (fun t=>c.vals.length - t) (0) (⟨Nat.zero_le _,fun i hi=>by omega⟩) ⟨rfl,rfl,rfl,rfl,rfl,rfl,rfl⟩ qS ?_
  intro t hst
  have hlast:0≤lastV c.vals t∧(lastV c.vals t=INF∨lastV c.vals t≤MAXV):=by
   unfold lastV
   by_cases h:t=0
   ·rw[if_pos h];exact⟨Int.le_refl _,.inr (by decide)⟩
   ·rw[if_neg h]
    have:=(hst.2 (t - 1) (by omega)).1
    unfold INF MAXV at this ⊢
    omega
  refine zQ (zG (zR 1 rfl (zN (zU (zQ ?_)))))
  refine cD rfl ?_ ?_<;>intro hc1
  ·
   have htl:t<c.vals.length:=by omega
   refine zK (zU (zQ (zB (zQ (zG ?_)))))
   refine yI ?_
   refine yD (r:=by((apply RS.rdD;assumption;((try dsimp only)<;>omega)))) (k:=?_)
   refine zR 1 rfl (zN (zU (zQ (zQ (zG (zR 4 rfl ?_))))))
   refine yP ?_
   refine yP ?_
   refine yP ?_
   refine yP ?_
   refine yP ?_
   refine yN ?_
   refine yO ?_
   refine zN (zU ?_)
   refine cC rfl ?_ ?_<;>intro hc2
   ·try simp only[zk] at hc2
    have hno:validB c=false:=validB_false (fun h=>by
     have h2:=h.2.1 t htl
     unfold lastV at hc2
     unfold INF MAXV at h2
     rcases hc2 with x|x
     ·split at x
      ·omega
      ·have:=h2.2.resolve_left (by omega)
       omega
     ·omega)
    refine zQ (zG (zR 1 rfl (zN (zU (zT (wt (wb (wt (wt (wb (wt ?_)))))))))))
    refine sE (E:=E) ?_
    refine zr1 ?_
    exact⟨by rw[hno];rfl,rfl⟩
   ·try simp only[zk] at hc2
    have hy:(nth c.vals t=INF∨(0≤nth c.vals t∧nth c.vals t≤MAXV))∧(t=0∨nth c.vals (t - 1)≤nth c.vals t):=by
     unfold INF MAXV
     have hle:lastV c.vals t≤nth c.vals t:=by omega
     refine⟨by omega,?_⟩
     unfold lastV at hle
     by_cases h:t=0
     ·exact .inl h
     ·rw[if_neg h] at hle;exact .inr hle
    refine zK (zU (zG (zR 2 rfl (zN (zL (zU (zG ?_)))))))
    refine yA ?_
    refine zR 1 rfl (zN ?_)
    refine WE.again (t+1) (⟨by omega,fun i hi=>by
     by_cases e:i=t
     ·subst e;exact hy
     ·exact hst.2 i (by omega)⟩) (by(try dsimp only);omega) ⟨vint (lastV_succ _ _),rfl,rfl,rfl,rfl,rfl,rfl⟩ (RLe.refl _) qS
  ·
   obtain rfl:t=c.vals.length:=by omega
   obtain⟨P,hP⟩:=Int.eq_ofNat_of_zero_le (show 0≤c.per by omega)
   have hlv:lastV c.vals c.vals.length=nth c.vals (c.vals.length - 1):=if_neg (by omega)
   have e3:((c.vals.length:Int) - c.per).toNat=c.vals.length - c.per.toNat:=by omega
   refine zX ?_
   refine wx (wx (zY (zU (zQ (zQ (zG (zR 2 rfl (zN (zU ?_)))))))))
   refine cE rfl ?_ ?_<;>intro hc3
   ·
    have hif:(if nth c.vals (c.vals.length - 1)=INF then c.per=1∧c.inc=0 else nth c.vals (c.vals.length - 1)≤nth c.vals (c.vals.length - c.per.toNat)+c.inc)↔(c.per=1∧c.inc=0):=by rw[if_pos (by rw[← hlv];exact hc3)]
    refine zQ (zG (zR 1 rfl ?_))
    refine yM 0 ?_
    refine zR 2 rfl ?_
    refine yP ?_
    refine yG (Rd.addC (Rd.blkC 0 rfl) _) ?_
    refine yP ?_
    refine yN ?_
    refine zR 1 rfl (zN (zU (zT (wt ?_))))
    refine sE (E:=E) ?_
    refine zr1 ?_
    refine⟨congrArg Value.bool ?_,rfl⟩
    rw[Bool.eq_iff_iff,validB_iff,hif]
    simp only[Bool.and_eq_true,beq_iff_eq]
    exact⟨fun h=>⟨hall,fun j hj=>hst.2 j hj,h⟩,fun h=>h.2.2⟩
   ·
    have hif:(if nth c.vals (c.vals.length - 1)=INF then c.per=1∧c.inc=0 else nth c.vals (c.vals.length - 1)≤nth c.vals (c.vals.length - c.per.toNat)+c.inc)↔(nth c.vals (c.vals.length - 1)≤nth c.vals (c.vals.length - c.per.toNat)+c.inc):=by rw[if_neg (by rw[← hlv];exact hc3)]
    have hx2:=(hst.2 (c.vals.length - c.per.toNat) (by omega)).1
    rw[← e3] at hx2
    unfold INF MAXV at hx2 hall
    refine zK (zU (zQ ?_))
    refine W.regionQ _ mixed qK ?_
    refine zR 1 rfl ?_
    refine yM 0 ?_
    refine zR 2 rfl ?_
    refine yM 0 ?_
    refine yS ?_
    refine yX ?_
    refine yD (r:=by((apply RS.rdD;assumption;((try dsimp only)<;>omega)))) (k:=?_)
    refine zR 1 rfl ?_
    refine yM 0 ?_
    refine yA ?_
    refine zR 3 rfl (zN (zU (zT ?_)))
    refine sE (E:=E) ?_
    refine zr1 ?_
    refine⟨congrArg Value.bool ?_,rfl⟩
    rw[Bool.eq_iff_iff,validB_iff,hif,e3,hlv]
    simp only[decide_eq_true_eq]
    exact⟨fun h=>⟨by unfold MAXV;omega,fun j hj=>hst.2 j hj,by omega⟩,fun h=>by have:=h.2.2;omega⟩

theorem CFiniteG_V {R:Ro} {fa:Option Addr} {fc:Nat} {c:Cv} (ha:RS R 1 encI fa c.vals):FnV Tryz.prog 72 [.agg #[.slice fa c.vals.length fc,.int .i64 c.per,.int .i64 c.inc]] R (.bool (validB c && finB c)):=by
 refine FnV.ofOwn (fun w0 hb0=>?_)
 refine fE 9 Tryz.func72 ?_
 refine zQ (zG ?_)
 refine zO fun b1=>?_
 refine zR 1 rfl (zN (zU (zQ (zG ?_))))
 refine yD (r:=by(first|exact Rd.blk 0 rfl)) (k:=?_)
 refine WG.callV en71 rfl rfl qD (CallOp.mk' rfl rfl rfl rfl) (fun _=>rfl) (fun hg=>CValidX_V ha) ?_
 refine zR 1 rfl ?_
 refine yJ (r:=by(first|exact Rd.blkC 0 rfl)) (k:=?_)
 refine WG.callV en103 rfl rfl (by decide) (CallOp.mk' rfl rfl rfl rfl) qE (fun hg=>WFiniteG_V (by simpa using hg) ha) ?_
 refine yN ?_
 refine zR 1 rfl (zN (zU (zT ?_)))
 refine WE.subE (E':=[]) qS ?_
 refine zr1 ?_
 exact rfl
set_option maxHeartbeats 1000000 in
theorem Route_V {R:Ro} {na la fa:Option Addr} {nc lc fc:Nat} {names:List (List UInt8)} {ms:List LnM} {fs:List FlM} {x1 x2:Option Addr} {xc1 xc2:Nat} {f:Fl} (hla:K.RS R 5 encLn la ms) (hxr:K.RS R 1 encI x1 f.route):FnV Tryz.prog 43 [.agg #[.slice na names.length nc,.slice la ms.length lc,.slice fa fs.length fc],.agg #[.string (str f.name),.slice x1 f.route.length xc1,.int .i64 f.cls,.int .i64 f.lo,.int .i64 f.hi,.slice x2 f.cv.vals.length xc2,.int .i64 f.cv.per,.int .i64 f.cv.inc]] R (.int .i64 (routeE (ms.map (·.L)) f)):=by
 refine FnV.ofOwn (fun w0 hb0=>?_)
 have hll:=hla.len
 have hrl:=hxr.len
 have hml:(ms.map (·.L)).length=ms.length:=List.length_map ..
 refine fE 53 Tryz.func43 ?_
 refine zQ (zG ?_)
 refine zO fun b2=>?_
 refine zO fun b3=>?_
 refine zR 1 rfl (zN (zU (zQ (zQ (zG (zR 1 rfl ?_))))))
 refine yM 0 ?_
 refine zR 2 rfl (zN (zU ?_))
 refine cE rfl ?_ ?_<;>intro hc0
 ·
  have hE:routeE (ms.map (·.L)) f=5:=if_pos (by omega)
  refine zQ (zG (zR 1 rfl (zN (zU (zT (wt ?_))))))
  refine WE.subE (E':=[]) qS ?_
  refine zr1 ?_
  show Value.int .i64 _=_
  rw[hE]
 ·
  refine zK (zU (zQ (zQ (zG (zR 1 rfl ?_)))))
  refine yM 0 ?_
  refine zR 2 rfl (zN (zU ?_))
  refine cD rfl ?_ ?_<;>intro hc1
  ·
   have hE:routeE (ms.map (·.L)) f=3:=by unfold routeE;rw[if_neg (by omega),if_pos (by omega)]
   refine zQ (zG (zR 1 rfl (zN (zU (zT (wt ?_))))))
   refine WE.subE (E':=[]) qS ?_
   refine zr1 ?_
   show Value.int .i64 _=_
   rw[hE]
  ·
   have hE:routeE (ms.map (·.L)) f=routeGo (ms.map (·.L)) f.cls [] f.route:=by unfold routeE;rw[if_neg (by omega),if_neg (by omega)]
   refine zK (zU (zQ (zG ?_)))
   refine WL.ef rfl rfl qD (Ef.makeMap rfl (fun b16=>?_))
   refine zR 1 rfl (zN (zU (zQ (zQ (zG (zR 1 rfl ?_))))))
   refine yM 1 ?_
   refine zR 2 rfl (zN (zU (zB ?_)))
   refine W.loopK (β:=Nat) (fun i=>i≤f.route.length∧routeGo (ms.map (·.L)) f.cls (f.route.take i) (f.route.drop i)=routeGo (ms.map (·.L)) f.cls [] f.route) (fun i=>[(20,true,.int .i64 (i:Int))]) [2,3,5,18,19] [_,_,_,_,_] [] _ rfl (fun i=>[(0,.obj b16 (setZ (f.route.take i)))]) (fun i=>f.route.length - i) (0) (⟨Nat.zero_le _,rfl⟩) ⟨rfl,rfl,rfl,rfl,rfl,rfl,rfl⟩ qS ?_
   intro i hst
   obtain⟨hi,hch⟩:=hst
   refine zQ (zG (zR 1 rfl (zN (zU (zQ ?_)))))
   refine cD rfl ?_ ?_<;>intro hc2
   ·
    have hil:i<f.route.length:=by omega
    rw[show f.route.drop i=nth f.route i::f.route.drop (i+1) by rw[nth_eq hil];exact List.drop_eq_getElem_cons hil,routeGo,hml] at hch
    refine zK (zU (zQ (zB (zQ (zG ?_)))))
    refine yI ?_
    refine yD (r:=by exact RS.rdD hxr hil) (k:=?_)
    refine zR 1 rfl (zN (zU (zQ (zQ (zG (zR 3 rfl ?_))))))
    refine yP ?_
    refine yP ?_
    refine yG (Rd.addC (Rd.blkC 2 rfl) _) ?_
    refine yP ?_
    refine yP ?_
    refine yO ?_
    refine zN (zU ?_)
    refine cC rfl ?_ ?_<;>intro hc3
    ·try simp only[zk] at hc3
     rw[if_pos (by omega)] at hch
     refine zQ (zG (zR 1 rfl (zN (zU (zT (wt (wb (wt (wt (wb (wt ?_)))))))))))
     refine WE.subE (E':=[]) qS ?_
     refine zr1 ?_
     show Value.int .i64 _=_
     rw[hE,← hch]
    ·try simp only[zk] at hc3
     have hr0:0≤nth f.route i∧nth f.route i<ms.length:=by omega
     rw[if_neg (by omega)] at hch
     refine zK (zU (zQ (zQ (zG (zR 2 rfl ?_)))))
     refine WG.y rfl rfl qD (Yl.setHasI tab_ok rfl rfl rfl rfl rfl rfl rfl rfl (fun _=>rfl)) ?_
     refine zN (zU ?_)
     refine cC rfl ?_ ?_<;>intro hc4
     ·try simp only[zk] at hc4
      have hin:nth f.route i∈f.route.take i:=by simpa using hc4
      rw[if_pos hin] at hch
      refine zQ (zG (zR 1 rfl (zN (zU (zT (wt (wb (wt (wt (wb (wt ?_)))))))))))
      refine WE.subE (E':=[]) qS ?_
      refine zr1 ?_
      show Value.int .i64 _=_
      rw[hE,← hch]
     ·try simp only[zk] at hc4
      have hin:nth f.route i∉f.route.take i:=by simpa using hc4
      rw[if_neg hin] at hch
      obtain⟨j,hj⟩:=Int.eq_ofNat_of_zero_le hr0.1
      have hjm:j<ms.length:=by omega
      have hjn:nth (ms.map (·.L)) (nth f.route i).toNat=(nth ms j).L:=by
       rw[hj,show ((j:Int)).toNat=j from rfl,nth_eq (by rw[hml];exact hjm),List.getElem_map,nth_eq hjm]
      rw[hjn] at hch
      rw[hj]
      refine zK (zU (zQ (zG (zR 2 rfl ?_))))
      refine WL.efN rfl rfl (Ef.setAddI tab_ok rfl rfl rfl rfl rfl rfl rfl rfl (by rw[← hj];exact hin) ?_)
      refine zN (zU (zQ ?_))
      refine W.regionQ _ mixed qK ?_
      refine zR 1 rfl ?_
      refine yM 1 ?_
      refine zR 2 rfl ?_
      refine yP ?_
      refine yG (Rd.addC (Rd.blkC 1 rfl) _) ?_
      refine yP ?_
      refine yG (Rd.addC (Rd.blkC 2 rfl) _) ?_
      refine yP ?_
      refine gI ?_
      refine yP ?_
      refine yJ (r:=by apply Rd.addC;((apply RS.rdC;assumption))) (k:=?_)
      refine yP ?_
      refine yO ?_
      refine zN (zU ?_)
      refine cC rfl ?_ ?_<;>intro hc5
      ·try simp only[zk] at hc5
       rw[if_pos (by omega)] at hch
       refine zQ (zG (zR 1 rfl (zN (zU (zT (wb (wt (wt (wb (wt ?_))))))))))
       refine WE.subE (E':=[]) qS ?_
       refine zr1 ?_
       show Value.int .i64 _=_
       rw[hE,← hch]
      ·try simp only[zk] at hc5
       rw[if_neg (by omega),← take_nth hil] at hch
       rw[← hj,← take_nth hil]
       refine zK (zL (zU (zG ?_)))
       refine yA ?_
       refine zR 1 rfl (zN ?_)
       refine WE.again (i+1) (⟨by omega,hch⟩) (by(try dsimp only);omega) ⟨rfl,rfl,rfl,rfl,rfl,rfl,rfl⟩ (RLe.refl _) qS
   ·
    obtain rfl:i=f.route.length:=by omega
    rw[List.drop_length] at hch
    refine zX ?_
    refine wx (wx (zY (zU (zQ (zG (zR 1 rfl (zN (zU (zT ?_)))))))))
    refine WE.subE (E':=[]) qS ?_
    refine zr1 ?_
    show Value.int .i64 _=_
    rw[hE,← hch];rfl
set_option maxHeartbeats 1000000 in
theorem Traf24_V {R:Ro} {x1 x2:Option Addr} {xc1 xc2:Nat} {f:Fl} (hxv:K.RS R 1 encI x2 f.cv.vals):FnV Tryz.prog 44 [.agg #[.string (str f.name),.slice x1 f.route.length xc1,.int .i64 f.cls,.int .i64 f.lo,.int .i64 f.hi,.slice x2 f.cv.vals.length xc2,.int .i64 f.cv.per,.int .i64 f.cv.inc]] R (.int .i64 (trafE f)):=by
 refine FnV.ofOwn (fun w0 hb0=>?_)
 have hvl:=hxv.len
 refine fE 36 Tryz.func44 ?_
 refine zQ (zG ?_)
 refine zO fun b1=>?_
 refine zR 1 rfl (zN (zU (zQ (zQ (zG (zR 2 rfl ?_))))))
 refine yL (Rd.add (Rd.add (Rd.blk 0 rfl) _) _) ?_
 refine zR 2 rfl ?_
 refine yP ?_
 refine yP ?_
 refine yG (Rd.addC (Rd.addC (Rd.blkC 0 rfl) _) _) ?_
 refine yP ?_
 refine yP ?_
 refine yG (Rd.addC (Rd.addC (Rd.blkC 0 rfl) _) _) ?_
 refine yP ?_
 refine yO ?_
 refine zR 1 rfl ?_
 refine yP ?_
 refine yP ?_
 refine yG (Rd.addC (Rd.addC (Rd.blkC 0 rfl) _) _) ?_
 refine yP ?_
 refine yO ?_
 refine zN (zU ?_)
 refine cC rfl ?_ ?_<;>intro hc0
 ·try simp only[zk] at hc0
  have hE:trafE f=2:=if_pos (by omega)
  refine zQ (zG (zR 1 rfl (zN (zU (zT (wt ?_))))))
  refine WE.subE (E':=[]) qS ?_
  refine zr1 ?_
  show Value.int .i64 _=_
  rw[hE]
 ·try simp only[zk] at hc0
  have h0:¬ (f.lo<1∨f.hi<f.lo∨1500<f.hi):=by omega
  refine zK (zU (zQ (zQ (zG (zR 1 rfl ?_)))))
  refine yM 0 ?_
  refine WG.callV en71 rfl rfl qD (CallOp.mk' rfl rfl rfl rfl) (fun _=>rfl) (fun hg=>CValidX_V hxv) ?_
  refine zR 1 rfl (zN (zU ?_))
  refine cC rfl ?_ ?_<;>intro hc1
  ·try simp only[zk] at hc1
   have hv:validB f.cv=false:=by simpa using hc1
   have hE:trafE f=1:=by unfold trafE;rw[if_neg h0,if_pos hv]
   refine zQ (zG (zR 1 rfl (zN (zU (zT (wt ?_))))))
   refine WE.subE (E':=[]) qS ?_
   refine zr1 ?_
   show Value.int .i64 _=_
   rw[hE]
  ·try simp only[zk] at hc1
   have hv:validB f.cv=true:=by simpa using hc1
   have hv1:=(validB_iff.1 hv).1.1
   refine zK (zU (zQ (zQ (zG (zR 2 rfl ?_)))))
   refine yL (Rd.add (Rd.add (Rd.blk 0 rfl) _) _) ?_
   refine yI ?_
   refine yD (r:=by exact RS.rdD hxv hv1) (k:=?_)
   refine zR 1 rfl (zN (zU ?_))
   refine cN rfl ?_ ?_<;>intro hc2
   ·dsimp only at hc2
    have hE:trafE f=6:=by unfold trafE;rw[if_neg h0,if_neg (by rw[hv];decide),if_pos (by omega)]
    refine zQ (zG (zR 1 rfl (zN (zU (zT (wt ?_))))))
    refine WE.subE (E':=[]) qS ?_
    refine zr1 ?_
    show Value.int .i64 _=_
    rw[hE]
   ·dsimp only at hc2
    refine zK (zU (zQ (zQ (zG (zR 1 rfl ?_)))))
    refine yM 0 ?_
    refine WG.callV en72 rfl rfl qD (CallOp.mk' rfl rfl rfl rfl) (fun _=>rfl) (fun hg=>CFiniteG_V hxv) ?_
    refine zR 1 rfl (zN (zU ?_))
    refine cC rfl ?_ ?_<;>intro hc3
    ·try simp only[zk] at hc3
     have hfn:finB f.cv=false:=by rw[hv] at hc3;simpa using hc3
     have hE:trafE f=2:=by unfold trafE;rw[if_neg h0,if_neg (by rw[hv];decide),if_neg (by omega),if_pos hfn]
     refine zQ (zG (zR 1 rfl (zN (zU (zT (wt ?_))))))
     refine WE.subE (E':=[]) qS ?_
     refine zr1 ?_
     show Value.int .i64 _=_
     rw[hE]
    ·try simp only[zk] at hc3
     have hfn:finB f.cv=true:=by rw[hv] at hc3;simpa using hc3
     have hE:trafE f=0:=by unfold trafE;rw[if_neg h0,if_neg (by rw[hv];decide),if_neg (by omega),if_neg (by rw[hfn];decide)]
     refine zK (zU (zQ (zG (zR 1 rfl (zN (zU (zT ?_)))))))
     refine WE.subE (E':=[]) qS ?_
     refine zr1 ?_
     show Value.int .i64 _=_
     rw[hE]

set_option maxHeartbeats 1000000 in
theorem NCheck_E {R : Ro} {E : List Ent} {na la fa : Option Addr} {nc lc fc : Nat} {names : List (List UInt8)} {ms : List LnM} {fs : List FlM} (hna : K.RS R 1 encT na names) (hla : K.RS R 5 encLn la ms) (hfa : LsF R E fa fs) (hok : ∀ m ∈ ms, OkLn R m) (hof : ∀ m ∈ fs, OkFl R m) (hnl : ∀ x ∈ names, x.length ≤ 9223372036854775807) (w0 : World) : FnE Tryz.prog 22 [.agg #[.slice na names.length nc, .slice la ms.length lc, .slice fa fs.length fc]] w0 R E (.int .i64 (chkNet names (ms.map (·.L)) (fs.map (·.f)))) := by
 refine Fn.toE ?_
 have hll:=hla.len
 have hfl:=hfa.len
 have hml:(ms.map (·.L)).length=ms.length:=List.length_map ..
 have hfml:(fs.map (·.f)).length=fs.length:=List.length_map ..
 refine fE 89 Tryz.func22 ?_
 refine zQ (zG ?_)
 refine zO fun b1=>?_
 refine zR 1 rfl (zN (zU (zQ (zQ (zG (zR 1 rfl ?_))))))
 refine yM 0 ?_
 refine zR 3 rfl ?_
 refine yP ?_
 refine yG (Rd.addC (Rd.blkC 0 rfl) _) ?_
 refine yP ?_
 refine yP ?_
 refine yO ?_
 refine zR 1 rfl ?_
 refine yP ?_
 refine yG (Rd.addC (Rd.blkC 0 rfl) _) ?_
 refine yP ?_
 refine yP ?_
 refine yO ?_
 refine zN (zU ?_)
 refine cC rfl ?_ ?_<;>intro hc0
 ·try simp only[zk] at hc0
  refine zQ (zG (zR 1 rfl (zN (zU (zT (wt ?_))))))
  refine sE (E:=E) ?_
  refine zr1 ?_
  refine⟨?_,rfl⟩
  show Value.int .i64 _=Value.int .i64 _
  unfold chkNet;rw[hml,hfml,if_pos (by omega)]
 ·try simp only [zk] at hc0
  refine zK (zU (zQ (zQ (zG (zR 1 rfl ?_)))))
  refine yM 0 ?_
  refine zR 2 rfl ?_
  refine yM 0 ?_
  refine zR 2 rfl (zN (zU ?_))
  refine cN rfl ?_ ?_<;>intro hc1
  ·
   refine zQ (zG (zR 1 rfl (zN (zU (zT (wt ?_))))))
   refine sE (E:=E) ?_
   refine zr1 ?_
   refine⟨?_,rfl⟩
   show Value.int .i64 _=Value.int .i64 _
   unfold chkNet;rw[hml,hfml,if_neg (by omega),if_pos (by omega)]
  ·
   have hcn:chkNet names (ms.map (·.L)) (fs.map (·.f))=if chkLs [] (names.zip (ms.map (·.L)))≠0 then chkLs [] (names.zip (ms.map (·.L))) else chkFs (ms.map (·.L)) [] (fs.map (·.f)):=by unfold chkNet;rw[hml,hfml,if_neg (by omega),if_neg (by omega)]
   refine zK (zU (zQ (zG ?_)))
   refine WL.ef rfl rfl qD (Ef.makeMap rfl (fun b37=>?_))
   refine zR 1 rfl (zN (zU (zQ (zQ (zG (zR 1 rfl ?_))))))
   refine yM 1 ?_
   refine zR 2 rfl (zN (zU (zB ?_)))
   refine W.loopK (β:=Nat) (fun i=>i≤ms.length∧chkLs (names.take i) ((names.zip (ms.map (·.L))).drop i)=chkLs [] (names.zip (ms.map (·.L)))) (fun i=>[(41,true,.int .i64 (i:Int))]) [1,3,39,40] [_,_,_,_] [] _ rfl (fun i=>[(0,.obj b37 (setO (names.take i)))]) (fun i=>ms.length - i) (0) (⟨Nat.zero_le _,rfl⟩) ⟨rfl,rfl,rfl,rfl,rfl,rfl⟩ qS ?_
   intro i hst
   obtain⟨hi,hch⟩:=hst
   refine zQ (zG (zR 1 rfl (zN (zU (zQ ?_)))))
   refine cD rfl ?_ ?_<;>intro hc2
   ·
    have him:i<ms.length:=by omega
    have hin:i<names.length:=by omega
    have hnL:∃ q:Ln,q=(nth ms i).L∧(ms.map (·.L)).length=ms.length∧(names.zip (ms.map (·.L))).drop i=(nth names i,q)::(names.zip (ms.map (·.L))).drop (i+1):=by
     have hl:i<(names.zip (ms.map (·.L))).length:=by rw[List.length_zip,hml];omega
     refine⟨_,rfl,hml,?_⟩
     rw[List.drop_eq_getElem_cons hl,List.getElem_zip,nth_eq hin,nth_eq him,List.getElem_map]
    obtain⟨q,hq,_,hdr⟩:=hnL
    rw[hdr,chkLs] at hch
    dsimp only at hch
    subst hq
    refine zK (zU (zQ (zB (zQ (zG (zR 1 rfl ?_))))))
    refine WG.y rfl rfl qD (Yl.indexN tab_ok rfl rfl rfl rfl rfl rfl (fun _=>rfl) qN (by intro _;first|exact(hfa.sub (RLe.refl _) qS).has|exact qI)) ?_
    refine yD (r:=by exact RS.rdD hla him) (k:=?_)
    refine zA fun b5=>?_
    refine zR 1 rfl ?_
    refine zE 0 ?_
    refine zN (zU (zQ (zQ (zG (zR 2 rfl ?_)))))
    refine yM 2 ?_
    refine zR 1 rfl ?_
    refine WG.y rfl rfl qD (Yl.indexN tab_ok rfl rfl rfl rfl rfl rfl (fun _=>rfl) qN (by intro _;first|exact(hfa.sub (RLe.refl _) qS).has|exact qI)) ?_
    refine yD (r:=by exact RS.rdD hna hin) (k:=?_)
    refine WL.callAt 1 en41 rfl rfl qD (CallOp.mkT rfl rfl rfl rfl) rfl (Fresh_C (met:=names.take i) (n:=nth names i) (hnl _ (nth_mem hin)) w0 _) ?_
    rintro _ _ _ _ - ⟨rfl,rfl,rfl,rfl⟩
    refine zR 1 rfl (zN (zU (zQ (zG (zR 2 rfl (zN (zU ?_)))))))
    refine cN rfl ?_ ?_<;>intro hc3
    ·
     rw[if_pos hc3] at hch
     have hq:=hcn.trans (if_pos (by rw[← hch];exact hc3))
     refine zQ (zG (zR 2 rfl (zN (zU (zT (wt (wb (wt (wt (wb (wt ?_)))))))))))
     refine sE (E:=E) ?_
     refine zr1 ?_
     refine⟨?_,rfl⟩
     show Value.int .i64 _=Value.int .i64 _
     rw[hq,← hch]
    ·
     have hf0:frE (names.take i) (nth names i)=0:=by first|exact hc3|exact Classical.not_not.1 hc3
     rw[if_neg (fun h=>h hf0)] at hch
     rw[if_pos hf0,← take_nth hin]
     refine zK (zU (zQ (zG ?_)))
     refine yB 0 ?_
     refine WG.callV en42 rfl rfl qD (CallOp.mk' rfl rfl rfl rfl) (fun _=>rfl) (fun hg=>ChkSrv_V (L:=(nth ms i).L) (hok _ (nth_mem him)).1 rfl (hok _ (nth_mem him)).2 rfl) ?_
     refine zR 1 rfl (zN (zU (zQ (zG (zR 2 rfl (zN (zU ?_)))))))
     refine cN rfl ?_ ?_<;>intro hc4
     ·
      rw[if_pos hc4] at hch
      have hq:=hcn.trans (if_pos (by rw[← hch];exact hc4))
      refine zQ (zG (zR 2 rfl (zN (zU (zT (wb (wt (wt (wb (wt ?_))))))))))
      refine sE (E:=E) ?_
      refine zr1 ?_
      refine⟨?_,rfl⟩
      show Value.int .i64 _=Value.int .i64 _
      rw[hq,← hch]
     ·
      have hf1:chkL (nth ms i).L=0:=by first|exact hc4|exact Classical.not_not.1 hc4
      rw[if_neg (fun h=>h hf1),← take_nth hin] at hch
      refine zK (zL (zU (zG ?_)))
      refine yA ?_
      refine zR 1 rfl (zN ?_)
      refine WE.again (i+1) (⟨by omega,hch⟩) (by(try dsimp only);omega) ⟨rfl,rfl,rfl,rfl,rfl,rfl⟩ (RLe.refl _) qS
   ·
    obtain rfl:i=ms.length:=by omega
    rw[List.drop_of_length_le (by rw[List.length_zip,hml];omega)] at hch
    have hcl:chkLs [] (names.zip (ms.map (·.L)))=0:=hch.symm
    rw[if_neg (fun h=>h hcl)] at hcn
    refine zX ?_
    refine wx (wx (zY (zU (zQ (zG ?_)))))
    refine WL.ef rfl rfl qD (Ef.makeMap rfl (fun b62=>?_))
    refine zR 1 rfl (zN (zU (zQ (zQ (zG (zR 1 rfl ?_))))))
    refine yM 2 ?_
    refine zR 2 rfl (zN (zU (zB ?_)))
    refine W.loopK (β:=Nat) (fun i=>i≤fs.length∧chkFs (ms.map (·.L)) ((fs.map FlM.nm).take i) ((fs.map (·.f)).drop i)=chkFs (ms.map (·.L)) [] (fs.map (·.f))) (fun i=>[(66,true,.int .i64 (i:Int))]) [1,8,64,65] [_,_,_,_] [] _ rfl (fun i=>[(0,.obj b62 (setO ((fs.map FlM.nm).take i)))]) (fun i=>fs.length - i) (0) (⟨Nat.zero_le _,rfl⟩) ⟨rfl,rfl,rfl,rfl,rfl,rfl⟩ qS ?_
    intro i hst
    obtain⟨hi,hch⟩:=hst
    refine zQ (zG (zR 1 rfl (zN (zU (zQ ?_)))))
    refine cD rfl ?_ ?_<;>intro hc5
    ·
     have hif:i<fs.length:=by omega
     have hnmi:nth (fs.map FlM.nm) i=(nth fs i).f.name:=by rw[nth_eq (by rw[List.length_map];exact hif),List.getElem_map,nth_eq hif];rfl
     have hnml:i<(fs.map FlM.nm).length:=by rw[List.length_map];exact hif
     rw[show (fs.map (·.f)).drop i=(nth fs i).f::(fs.map (·.f)).drop (i+1) by
      have hl:i<(fs.map (·.f)).length:=by omega
      rw[List.drop_eq_getElem_cons hl,List.getElem_map,nth_eq hif],chkFs] at hch
     refine zK (zU (zQ (zB (zQ (zG ?_)))))
     refine WG.y rfl rfl qD (Yl.indexN tab_ok rfl rfl rfl rfl rfl rfl (fun _=>rfl) qN (by intro _;first|exact(hfa.sub (RLe.refl _) qS).has|exact qI)) ?_
     refine yD (r:=by exact(hfa.sub (RLe.refl _) qS).rd _ hif) (k:=?_)
     refine zA fun b10=>?_
     refine zE 0 ?_
     refine zN (zU (zQ (zQ (zG (zR 2 rfl ?_)))))
     refine yM 0 ?_
     refine WL.callAt 1 en41 rfl rfl qD (CallOp.mkT rfl rfl rfl rfl) rfl (Fresh_C (met:=(fs.map FlM.nm).take i) (n:=(nth fs i).f.name) (hof _ (nth_mem hif)).name w0 _) ?_
     rintro _ _ _ _ - ⟨rfl,rfl,rfl,rfl⟩
     refine zR 1 rfl (zN (zU (zQ (zG (zR 2 rfl (zN (zU ?_)))))))
     refine cN rfl ?_ ?_<;>intro hc6
     ·
      have hfe:flE ((fs.map FlM.nm).take i) (ms.map (·.L)) (nth fs i).f=frE ((fs.map FlM.nm).take i) (nth fs i).f.name:=if_pos hc6
      rw[hfe,if_pos hc6] at hch
      refine zQ (zG (zR 2 rfl (zN (zU (zT (wt (wb (wt (wt (wb (wt ?_)))))))))))
      refine sE (E:=E) ?_
      refine zr1 ?_
      refine⟨?_,rfl⟩
      show Value.int .i64 _=Value.int .i64 _
      rw[hcn,← hch]
     ·
      have hf0:frE ((fs.map FlM.nm).take i) (nth fs i).f.name=0:=by first|exact hc6|exact Classical.not_not.1 hc6
      have hfe:flE ((fs.map FlM.nm).take i) (ms.map (·.L)) (nth fs i).f=if routeE (ms.map (·.L)) (nth fs i).f≠0 then routeE (ms.map (·.L)) (nth fs i).f else trafE (nth fs i).f:=if_neg (fun h=>h hf0)
      rw[if_pos hf0,← hnmi,← take_nth hnml]
      refine zK (zU (zQ (zQ (zG ?_))))
      refine yB 3 ?_
      refine yB 0 ?_
      refine WG.callV en43 rfl rfl qD (CallOp.mk' rfl rfl rfl rfl) (fun _=>rfl) (fun hg=>Route_V (f:=(nth fs i).f) hla (hof _ (nth_mem hif)).route) ?_
      refine zR 1 rfl (zN (zU (zQ (zG (zR 2 rfl (zN (zU ?_)))))))
      refine cN rfl ?_ ?_<;>intro hc7
      ·
       rw[if_pos hc7] at hfe
       rw[hfe,if_pos hc7] at hch
       refine zQ (zG (zR 2 rfl (zN (zU (zT (wt (wb (wt (wt (wb (wt ?_)))))))))))
       refine sE (E:=E) ?_
       refine zr1 ?_
       refine⟨?_,rfl⟩
       show Value.int .i64 _=Value.int .i64 _
       rw[hcn,← hch]
      ·
       have hr0:routeE (ms.map (·.L)) (nth fs i).f=0:=by first|exact hc7|exact Classical.not_not.1 hc7
       rw[if_neg (fun h=>h hr0)] at hfe
       refine zK (zU (zQ (zG ?_)))
       refine yB 0 ?_
       refine WG.callV en44 rfl rfl qD (CallOp.mk' rfl rfl rfl rfl) (fun _=>rfl) (fun hg=>Traf24_V (f:=(nth fs i).f) (hof _ (nth_mem hif)).vals) ?_
       refine zR 1 rfl (zN (zU (zQ (zG (zR 2 rfl (zN (zU ?_)))))))
       refine cN rfl ?_ ?_<;>intro hc8
       ·
        rw[hfe,if_pos hc8] at hch
        refine zQ (zG (zR 2 rfl (zN (zU (zT (wb (wt (wt (wb (wt ?_))))))))))
        refine sE (E:=E) ?_
        refine zr1 ?_
        refine⟨?_,rfl⟩
        show Value.int .i64 _=Value.int .i64 _
        rw[hcn,← hch]
       ·
        have ht0:trafE (nth fs i).f=0:=by first|exact hc8|exact Classical.not_not.1 hc8
        rw[hfe,if_neg (fun h=>h ht0),← hnmi,← take_nth hnml] at hch
        refine zK (zL (zU (zG ?_)))
        refine yA ?_
        refine zR 1 rfl (zN ?_)
        refine WE.again (i+1) (⟨by omega,hch⟩) (by(try dsimp only);omega) ⟨rfl,rfl,rfl,rfl,rfl,rfl⟩ (RLe.refl _) qS
    ·
     obtain rfl:i=fs.length:=by omega
     rw[List.drop_of_length_le (by omega)] at hch
     refine zX ?_
     refine wx (wx (zY (zU (zQ (zG (zR 1 rfl (zN (zU (zT ?_)))))))))
     refine sE (E:=E) ?_
     refine zr1 ?_
     refine⟨?_,rfl⟩
     show Value.int .i64 _=Value.int .i64 _
     rw[hcn,← hch];rfl
theorem NCheck_V {R:Ro} {na la fa:Option Addr} {nc lc fc:Nat} {names:List (List UInt8)} {ms:List LnM} {fs:List FlM} (hna:K.RS R 1 encT na names) (hla:K.RS R 5 encLn la ms) (hfa:K.RS R 8 encFl fa fs) (hok:∀ m∈ms,OkLn R m) (hof:∀ m∈fs,OkFl R m) (hnl:∀ x∈names,x.length≤9223372036854775807):FnV Tryz.prog 22 [.agg #[.slice na names.length nc,.slice la ms.length lc,.slice fa fs.length fc]] R (.int .i64 (chkNet names (ms.map (·.L)) (fs.map (·.f)))):=by
 refine FnV.ofOwn (fun w0 hb0=>?_)
 intro w hm
 refine(NCheck_E (E:=[]) hna hla (LsF.ro hfa) hok hof hnl w0 w hm).mono ?_
 rintro e w' ⟨rfl,hm'⟩
 exact⟨_,R,[],rfl,RLe.refl R,hm',rfl⟩

set_option maxHeartbeats 1000000 in
theorem Shape_V {R:Ro} {na la fa:Option Addr} {nc lc fc:Nat} {names:List (List UInt8)} {ms:List LnM} {fs:List FlM} (hna:K.RS R 1 encT na names) (hla:K.RS R 5 encLn la ms) (hfa:K.RS R 8 encFl fa fs) (hokn:∀ m∈ms,OkLn R m) (hof:∀ m∈fs,OkFl R m) (hnl:∀ x∈names,x.length≤9223372036854775807) (hck:chkNet names (ms.map (·.L)) (fs.map (·.f))=0) {da:Option Addr} {dc:Nat} {ds:List Sl} (hd:RS R 1 encS da ds) (hrd:∀ r∈ds,RS R 1 encI r.a r.xs) (hsh:ShD ds ms) (hdb:∀ r∈ds,∀ x∈r.xs,-1≤x∧x≤400):FnV Tryz.prog 73 [.agg #[.slice na names.length nc,.slice la ms.length lc,.slice fa fs.length fc],.slice da ds.length dc] R (.bool true):=by
 have hlm:=hla.len
 have hdl:=hd.len
 obtain⟨hs1,hs2⟩:=hsh
 refine Fn.toVS (fun w0 E=>?_)
 refine fE 50 Tryz.func73 ?_
 refine zQ (zG ?_)
 refine zO fun b2=>?_
 refine zR 1 rfl (zN (zU (zQ (zQ (zG ?_)))))
 refine yB 0 ?_
 refine WG.callV (v:=.int .i64 0) en22 rfl rfl qD (CallOp.mk' rfl rfl rfl rfl) (fun _=>rfl) (fun hg=>by
  have h:=NCheck_V (nc:=nc) (lc:=lc) (fc:=fc) hna hla hfa hokn hof hnl
  rw[hck] at h
  exact h) ?_
 refine zR 2 rfl ?_
 refine yP ?_
 refine yP ?_
 refine yP ?_
 refine yG (Rd.addC (Rd.blkC 0 rfl) _) ?_
 refine yP ?_
 refine yP ?_
 refine yO ?_
 refine zN (zU ?_)
 refine cC rfl ?_ ?_<;>intro hc0
 ·try simp only[zk] at hc0
  (simp at hc0;omega)
 ·try simp only [zk] at hc0
  refine zK (zU (zQ (zQ (zG (zR 3 rfl (zN (zU (zB ?_))))))))
  refine W.loopK (β:=Nat) (fun i=>i≤ds.length) (fun i=>[(22,true,.int .i64 (i:Int))]) [2,20,21] [_,_,_] [] _ rfl (fun i=>[]) (fun i=>ds.length - i) (0) (Nat.zero_le _) ⟨rfl,rfl,rfl,rfl,rfl⟩ qS ?_
  intro i hst
  have hi:=hst
  refine zQ (zG (zR 1 rfl (zN (zU (zQ ?_)))))
  refine cD rfl ?_ ?_<;>intro hc1
  ·
   have hil:i<ds.length:=by omega
   have him:i<ms.length:=by omega
   have hi2:=hs2 i him
   have hri:=hrd _ (nth_mem hil)
   have hrl:=hri.len
   refine zK (zU (zQ (zB (zQ (zG (zR 1 rfl ?_))))))
   refine yI ?_
   refine yD (r:=by((apply RS.rdD;assumption;((try dsimp only)<;>omega)))) (k:=?_)
   refine zR 2 rfl (zN (zU (zQ (zQ (zG (zR 3 rfl ?_))))))
   refine yM 0 ?_
   refine zR 1 rfl ?_
   refine yI ?_
   refine zR 1 rfl ?_
   refine yD (r:=by apply Rd.add;((apply RS.rdD;assumption;((try dsimp only)<;>omega)))) (k:=?_)
   refine zR 1 rfl (zN (zU ?_))
   refine cN rfl ?_ ?_<;>intro hc2
   ·
    exfalso;omega
   ·
    refine zK (zU (zQ (zG (zR 3 rfl (zN (zU (zB ?_)))))))
    refine W.loopK (β:=Nat) (fun c=>c≤(nth ds i).xs.length) (fun c=>[(38,true,.int .i64 (c:Int))]) [2,20,21,22,36,37] [_,_,_,_,_,_] [] _ rfl (fun c=>[]) (fun c=>(nth ds i).xs.length - c) (0) (Nat.zero_le _) ⟨rfl,rfl,rfl,rfl,rfl,rfl,rfl,rfl⟩ qS ?_
    intro c hst
    have hc:=hst
    refine zQ (zG (zR 1 rfl (zN (zU (zQ ?_)))))
    refine cD rfl ?_ ?_<;>intro hc3
    ·
     have hcl:c<(nth ds i).xs.length:=by omega
     have hxb:=hdb _ (nth_mem hil) _ (nth_mem hcl)
     refine zK (zU (zQ (zB (zQ (zG ?_)))))
     refine yI ?_
     refine yD (r:=by((apply RS.rdD;assumption;((try dsimp only)<;>omega)))) (k:=?_)
     refine zR 1 rfl (zN (zU (zQ (zG (zR 3 rfl ?_)))))
     refine yP ?_
     refine yP ?_
     refine yO ?_
     refine zN (zU ?_)
     refine cC rfl ?_ ?_<;>intro hc4
     ·try simp only[zk] at hc4
      exfalso;omega
     ·try simp only[zk] at hc4
      refine zK (zL (zU (zG ?_)))
      refine yA ?_
      refine zR 1 rfl (zN ?_)
      refine WE.again (c+1) qO (by(try dsimp only);omega) ⟨rfl,rfl,rfl,rfl,rfl,rfl,rfl,rfl⟩ (RLe.refl _) qS
    ·
     refine zX ?_
     refine wx (wx (zY (zL (zU (zG ?_)))))
     refine yA ?_
     refine zR 1 rfl (zN ?_)
     refine WE.again (i+1) qO (by(try dsimp only);omega) ⟨rfl,rfl,rfl,rfl,rfl⟩ (RLe.refl _) qS
  ·
   refine zX ?_
   refine wx (wx (zY (zU (zQ (zG (zR 1 rfl (zN (zU (zT ?_)))))))))
   refine zr1 ?_
   exact⟨rfl,qS⟩

theorem NHop_V {R:Ro} {na la fa:Option Addr} {nc lc fc nn nl:Nat} {fs:List FlM} (hfa:K.RS R 8 encFl fa fs) (hof:∀ m∈fs,OkFl R m) {i:Nat} (hif:i<fs.length) {line:Int}:FnV Tryz.prog 65 [.agg #[.slice na nn nc,.slice la nl lc,.slice fa fs.length fc],.int .i64 (i:Int),.int .i64 line] R (.int .i64 (hopL line (nth fs i).f.route)):=by
 have hrt:=(hof _ (nth_mem hif)).route
 have hrl:=hrt.len
 refine Fn.toVS (fun w0 E=>?_)
 refine fE 35 Tryz.func65 ?_
 refine zQ (zG ?_)
 refine zO fun b3=>?_
 refine zR 1 rfl (zN (zU (zQ (zQ (zG (zR 3 rfl ?_))))))
 refine yP ?_
 refine yP ?_
 refine yG (Rd.addC (Rd.blkC 0 rfl) _) ?_
 refine yP ?_
 refine yP ?_
 refine yO ?_
 refine zN (zU ?_)
 refine cC rfl ?_ ?_<;>intro hc0
 ·try simp only[zk] at hc0
  exfalso;omega
 ·try simp only[zk] at hc0
  refine zK (zU (zQ (zQ (zG (zR 1 rfl ?_)))))
  refine yM 0 ?_
  refine zR 1 rfl ?_
  refine yI ?_
  refine zR 1 rfl ?_
  refine yD (r:=by apply Rd.add;((apply RS.rdD;assumption;((try dsimp only)<;>omega)))) (k:=?_)
  refine zR 2 rfl (zN (zU (zB ?_)))
  refine W.loopK (β:=Nat) (fun k=>k≤(nth fs i).f.route.length∧∀ j,j<k→nth (nth fs i).f.route j≠line) (fun k=>[(25,true,.int .i64 (k:Int))]) [2,23,24] [_,_,_] [] _ rfl (fun k=>[]) (fun k=>(nth fs i).f.route.length - k) (0) (⟨Nat.zero_le _,fun j h=>absurd h (Nat.not_lt_zero j)⟩) ⟨rfl,rfl,rfl,rfl,rfl⟩ qS ?_
  intro k hst
  dsimp only[zipE,setAll,List.cons_append,List.nil_append,List.set_cons_zero,List.set_cons_succ]
  obtain⟨hk,hall⟩:=hst
  refine zQ (zG (zR 1 rfl (zN (zU (zQ ?_)))))
  refine cD rfl ?_ ?_<;>intro hc1
  ·
   have hkl:k<(nth fs i).f.route.length:=by omega
   refine zK (zU (zQ (zB (zQ (zG (zR 1 rfl ?_))))))
   refine yI ?_
   refine yD (r:=by((apply RS.rdD;assumption;((try dsimp only)<;>omega)))) (k:=?_)
   refine zR 2 rfl (zN (zU (zQ (zG (zR 3 rfl (zN (zU ?_)))))))
   refine cE rfl ?_ ?_<;>intro hc2
   ·
    refine zQ (zG (zR 2 rfl (zN (zU (zT (wb (wt (wt (wb (wt ?_))))))))))
    refine zr1 ?_
    exact⟨by rw[hopL_at hkl hall hc2];rfl,qS⟩
   ·
    refine zK (zL (zU (zG ?_)))
    refine yA ?_
    refine zR 1 rfl (zN ?_)
    refine WE.again (k+1) (⟨by omega,fun j hj=>by
     by_cases e:j=k
     ·subst e;exact hc2
     ·exact hall j (by omega)⟩) (by omega) ⟨rfl,rfl,rfl,rfl,rfl⟩ (RLe.refl _) qS
  ·
   have hkE:k=(nth fs i).f.route.length:=by omega
   refine zX ?_
   refine wx (wx (zY (zU (zQ (zG (zR 1 rfl (zN (zU (zT ?_)))))))))
   refine zr1 ?_
   exact⟨by rw[hopL_no (fun j hj=>hall j (by omega))];rfl,qS⟩
theorem Users_C {R:Ro} {na la fa:Option Addr} {nc lc fc nn nl:Nat} {fs:List FlM} (hfa:K.RS R 8 encFl fa fs) (hof:∀ m∈fs,OkFl R m) (h8:fs.length≤100) {line:Int} (w0:World) (E:List Ent):K.Fn Tryz.prog 76 [.agg #[.slice na nn nc,.slice la nl lc,.slice fa fs.length fc],.int .i64 line] w0 R E (fun v R' E'=>∃ (a:Option Addr) (c:Nat),v=.slice a (usersL fs line fs.length).length c∧RS R' 1 encI a (usersL fs line fs.length)∧E.Sublist E'):=by
 have hlf:=hfa.len
 refine fE 24 Tryz.func76 ?_
 refine zQ (zG ?_)
 refine zO fun b2=>?_
 refine zR 1 rfl (zN (zU (zQ (zG (zR 1 rfl (zN (zU (zQ ?_))))))))
 refine W.nil 3 1 qD ?_
 refine zQ (zG (zR 1 rfl ?_))
 refine yM 1 ?_
 refine zR 2 rfl (zN (zU (zB ?_)))
 refine W.loopK (β:=Nat × Option Addr × Nat) (fun (i,a9,c9)=>i≤fs.length) (fun (i,a9,c9)=>[(5,true,.slice a9 (usersL fs line i).length c9),(10,true,.int .i64 (i:Int))]) [1,2,9] [_,_,_] [] _ rfl (fun (i,a9,c9)=>[(0,.sl 3 1 a9 c9 ((usersL fs line i).map encI))]) (fun (i,a9,c9)=>fs.length - i) ((0,none,0)) (Nat.zero_le _) ⟨rfl,rfl,rfl,rfl,rfl,rfl⟩ qS ?_
 intro zz hst
 obtain⟨i,a9,c9⟩:=zz
 dsimp only[zipE,setAll,List.cons_append,List.nil_append,List.set_cons_zero,List.set_cons_succ]
 have hi:=hst
 have hul:=usersL_len fs line i
 refine zQ (zG (zR 1 rfl (zN (zU (zQ ?_)))))
 refine cD rfl ?_ ?_<;>intro hc0
 ·
  have hil:i<fs.length:=by omega
  have husn:=usersL_snoc fs line i
  refine zK (zU (zQ (zB (zQ (zG (zR 2 rfl (zN (zU (zQ (zG ?_))))))))))
  refine yB 1 ?_
  refine zR 2 rfl ?_
  refine WG.callV en65 rfl rfl qD (CallOp.mk' rfl rfl rfl rfl) (fun _=>rfl) (fun hg=>NHop_V hfa hof hil) ?_
  refine zR 1 rfl (zN (zU ?_))
  refine cD rfl ?_ ?_<;>intro hc1
  ·
   have e1:usersL fs line (i+1)=usersL fs line i++[(i:Int)]:=by rw[husn,if_pos (by omega)]
   refine zG (zR 2 rfl ?_)
   refine WL.ef rfl rfl qD (Ef.buildSliceD (enc:=encI) (parts:=[.tmp 19]) [(i:Int)] tab_ok rfl rfl rfl rfl rfl rfl rfl rfl qD qD (fun a20=>?_))
   refine WL.ef rfl rfl (by decide) (Ef.appendD 1 0 tab_ok rfl rfl rfl rfl rfl rfl rfl rfl rfl rfl rfl (fun _ _=>rfl) (by simp only[List.length_cons,List.length_nil];omega) (by simp only[List.length_cons,List.length_nil];omega) (fun a21 c21 ha21=>?_))
   refine zR 1 rfl (zN (zL (zU (zG ?_))))
   refine yA ?_
   refine zR 1 rfl (zN ?_)
   rw[← e1]
   refine WE.again ((i+1,a21,c21)) qO (by(try dsimp only);omega) ⟨rfl,rfl,rfl,rfl,rfl,rfl⟩ (RLe.refl _) qS
  ·
   have e1:usersL fs line (i+1)=usersL fs line i:=by rw[husn,if_neg (by omega),List.append_nil]
   refine zK (zL (zU (zG ?_)))
   refine yA ?_
   refine zR 1 rfl (zN ?_)
   rw[← e1]
   refine WE.again ((i+1,a9,c9)) qO (by(try dsimp only);omega) ⟨rfl,rfl,rfl,rfl,rfl,rfl⟩ (RLe.refl _) qS
 ·
  obtain rfl:i=fs.length:=by omega
  refine W.freeze (enc:=encI) (xs:=usersL fs line fs.length) 0 rfl ?_
  intro R1 hR1 hqs
  refine zX ?_
  refine wx (wx (zY (zU (zQ (zG (zR 2 rfl (zN (zU (zT ?_)))))))))
  refine zq1 (hR1) ?_
  exact⟨_,_,rfl,hqs,qS⟩
theorem Memb_C {R:Ro} {na la fa:Option Addr} {nc lc fc nn nl:Nat} {fs:List FlM} (hfa:K.RS R 8 encFl fa fs) (hof:∀ m∈fs,OkFl R m) (h8:fs.length≤100) {line cls:Int} (w0:World) (E:List Ent):K.Fn Tryz.prog 50 [.agg #[.slice na nn nc,.slice la nl lc,.slice fa fs.length fc],.int .i64 line,.int .i64 cls] w0 R E (fun v R' E'=>∃ (a:Option Addr) (c:Nat),v=.slice a (membL fs cls (usersL fs line fs.length)).length c∧RS R' 1 encI a (membL fs cls (usersL fs line fs.length))∧E.Sublist E'):=by
 have hlf:=hfa.len
 have hul:=usersL_len fs line fs.length
 have hum:=fun x (hx:x∈usersL fs line fs.length)=>usersL_mem hx
 obtain⟨us,hus⟩:∃ us,us=usersL fs line fs.length:=⟨_,rfl⟩
 rw[← hus] at hul hum ⊢
 have hml:∀ k,(membL fs cls (us.take k)).length≤us.length:=fun k=>by
  unfold membL
  have h1:=List.length_filter_le (fun x=>decide ((nth fs x.toNat).f.cls=cls)) (us.take k)
  have h2:=List.length_take_le k us
  have h3:(us.take k).length≤us.length:=by rw[List.length_take];omega
  omega
 refine fE 32 Tryz.func50 ?_
 refine zQ (zG ?_)
 refine zO fun b3=>?_
 refine zR 1 rfl (zN (zU (zQ (zG (zR 1 rfl (zN (zU (zQ ?_))))))))
 refine W.nil 3 1 qD ?_
 refine zQ (zG ?_)
 refine yB 1 ?_
 refine zR 1 rfl ?_
 refine WL.call en76 rfl rfl qD (CallOp.mkT rfl rfl rfl rfl) (Users_C hfa hof h8 w0 _) ?_
 rintro _ R1 E1 hR1 ⟨ua,uc,rfl,hua,hsub1⟩
 refine WL.subE hsub1 ?_
 rw[← hus] at hua ⊢
 have hfa:=hfa.mono hR1
 have hul2:=hua.len
 refine zR 2 rfl (zN (zU (zB ?_)))
 refine W.loopK (β:=Nat × Option Addr × Nat) (fun (k,a9,c9)=>k≤us.length) (fun (k,a9,c9)=>[(7,true,.slice a9 (membL fs cls (us.take k)).length c9),(14,true,.int .i64 (k:Int))]) [2,3,12,13] [_,_,_,_] [] _ rfl (fun (k,a9,c9)=>[(0,.sl 3 1 a9 c9 ((membL fs cls (us.take k)).map encI))]) (fun (k,a9,c9)=>us.length - k) ((0,none,0)) (Nat.zero_le _) ⟨rfl,rfl,rfl,rfl,rfl,rfl,rfl⟩ qS ?_
 intro zz hst
 obtain⟨k,a9,c9⟩:=zz
 dsimp only[zipE,setAll,List.cons_append,List.nil_append,List.set_cons_zero,List.set_cons_succ]
 have hk:=hst
 have hmk:=hml k
 refine zQ (zG (zR 1 rfl (zN (zU (zQ ?_)))))
 refine cD rfl ?_ ?_<;>intro hc0
 ·
  have hkl:k<us.length:=by omega
  have hux:=hum _ (nth_mem hkl)
  have hif:(nth us k).toNat<fs.length:=by omega
  have etk:us.take (k+1)=us.take k++[nth us k]:=take_nth hkl
  refine zK (zU (zQ (zB (zQ (zG ?_)))))
  refine yI ?_
  refine yD (r:=by((apply RS.rdD;assumption;((try dsimp only)<;>omega)))) (k:=?_)
  refine zR 1 rfl (zN (zU (zQ (zG (zR 1 rfl ?_)))))
  refine yM 1 ?_
  refine zR 1 rfl ?_
  refine yX ?_
  refine zR 1 rfl ?_
  refine yD (r:=by apply Rd.add;((apply RS.rdD;assumption;((try dsimp only)<;>omega)))) (k:=?_)
  refine zR 2 rfl (zN (zU ?_))
  refine cE rfl ?_ ?_<;>intro hc1
  ·
   have e1:membL fs cls (us.take (k+1))=membL fs cls (us.take k)++[nth us k]:=by unfold membL;rw[etk,List.filter_append];simp[hc1]
   refine zG (zR 2 rfl ?_)
   refine WL.ef rfl rfl qD (Ef.buildSliceD (enc:=encI) (parts:=[.tmp 27]) [nth us k] tab_ok rfl rfl rfl rfl rfl rfl rfl rfl qD qD (fun a28=>?_))
   refine WL.ef rfl rfl (by decide) (Ef.appendD 1 0 tab_ok rfl rfl rfl rfl rfl rfl rfl rfl rfl rfl rfl (fun _ _=>rfl) (by simp only[List.length_cons,List.length_nil];omega) (by simp only[List.length_cons,List.length_nil];omega) (fun a29 c29 ha29=>?_))
   refine zR 1 rfl (zN (zL (zU (zG ?_))))
   refine yA ?_
   refine zR 1 rfl (zN ?_)
   rw[← e1]
   refine WE.again ((k+1,a29,c29)) qO (by(try dsimp only);omega) ⟨rfl,rfl,rfl,rfl,rfl,rfl,rfl⟩ (RLe.refl _) qS
  ·
   have e1:membL fs cls (us.take (k+1))=membL fs cls (us.take k):=by unfold membL;rw[etk,List.filter_append];simp[hc1]
   refine zK (zL (zU (zG ?_)))
   refine yA ?_
   refine zR 1 rfl (zN ?_)
   rw[← e1]
   refine WE.again ((k+1,a9,c9)) qO (by(try dsimp only);omega) ⟨rfl,rfl,rfl,rfl,rfl,rfl,rfl⟩ (RLe.refl _) qS
 ·
  obtain rfl:k=us.length:=by omega
  rw[List.take_length]
  refine W.freeze (enc:=encI) (xs:=membL fs cls us) 0 rfl ?_
  intro R2 hR2 hqs
  refine zX ?_
  refine wx (wx (zY (zU (zQ (zG (zR 2 rfl (zN (zU (zT ?_)))))))))
  refine zq1 (hR1.trans hR2) ?_
  exact⟨_,_,rfl,hqs,qS⟩

theorem PBoth_lim {R:Ro} {fa:Option Addr} {fc:Nat} {cf:Cv} (hvf:validB cf=true) (ha:RS R 1 encI fa cf.vals) {ga:Option Addr} {gc:Nat} {cg:Cv} (hvg:validB cg=true) (hb:RS R 1 encI ga cg.vals) (hl:120<lcmC (normR cf) (normR cg)) (w0:World) (E:List Ent):K.Fn Tryz.prog 153 [.agg #[.slice fa cf.vals.length fc,.int .i64 cf.per,.int .i64 cf.inc],.agg #[.slice ga cg.vals.length gc,.int .i64 cg.per,.int .i64 cg.inc]] w0 R E (fun v R' E'=>v=.tuple #[.agg #[.slice none 0 0,.int .i64 0,.int .i64 0],.agg #[.slice none 0 0,.int .i64 0,.int .i64 0],.int .i64 0,.int .i64 3]∧E.Sublist E'):=by
 have hnf:=norm_nrm hvf
 have hng:=norm_nrm hvg
 obtain⟨_,f1,f2,f3,f4,f5,f6,f7⟩:=valid_range hnf.valid
 obtain⟨_,g1,g2,g3,g4,g5,g6,g7⟩:=valid_range hng.valid
 obtain⟨P1,hP1⟩:=Int.eq_ofNat_of_zero_le (show 0≤(normR cf).per by omega)
 obtain⟨P2,hP2⟩:=Int.eq_ofNat_of_zero_le (show 0≤(normR cg).per by omega)
 have hlc:lcmC (normR cf) (normR cg)=lcmN P1 P2:=by unfold lcmC;rw[hP1,hP2];rfl
 have hlb:lcmN P1 P2≤14400:=Nat.le_trans (lcmN_facts (by omega) (by omega)).2.2.1 (Nat.mul_le_mul (show P1≤120 by omega) (show P2≤120 by omega))
 have hlp:=(lcmN_facts (a:=P1) (b:=P2) (by omega) (by omega)).2.2.2
 rw[hlc] at hl
 refine fE 40 Tryz.func153 ?_
 refine zQ (zG ?_)
 refine zO fun b2=>?_
 refine zO fun b3=>?_
 refine zA fun b4=>?_
 refine zA fun b5=>?_
 refine zR 2 rfl (zN (zU (zQ (zQ (zG ?_)))))
 refine yB 3 ?_
 refine WL.call en141 rfl rfl qD (CallOp.mkT rfl rfl rfl rfl) (CNormalV_C hvf ha w0 _) ?_
 rintro _ R1 _ hR1 ⟨fa1x,ca1x,rfl,ha1x,hsub⟩
 refine WL.subE hsub ?_
 unfold cvV
 dsimp only at ha1x ⊢
 have hb:=hb.mono hR1
 refine zR 3 rfl ?_
 refine zE 1 ?_
 refine zR 1 rfl (zN (zU (zQ (zG (zR 2 rfl (zN (zU ?_)))))))
 refine cN rfl ?_ ?_<;>intro hc0
 ·
  exact absurd rfl hc0
 ·
  refine zK (zU (zQ (zQ (zG ?_))))
  refine yB 2 ?_
  refine WL.call en141 rfl rfl qD (CallOp.mkT rfl rfl rfl rfl) (CNormalV_C hvg hb w0 _) ?_
  rintro _ R2 _ hR2 ⟨fa2x,ca2x,rfl,ha2x,hsub⟩
  refine WL.subE hsub ?_
  unfold cvV
  dsimp only at ha2x ⊢
  have ha1x:=ha1x.mono hR2
  refine zR 3 rfl ?_
  refine zE 0 ?_
  refine zR 1 rfl (zN (zU (zQ (zG (zR 2 rfl (zN (zU ?_)))))))
  refine cN rfl ?_ ?_<;>intro hc1
  ·
   exact absurd rfl hc1
  ·
   refine zK (zU (zQ (zQ (zG (zR 1 rfl ?_)))))
   refine yM 1 ?_
   refine zR 1 rfl ?_
   refine yM 0 ?_
   refine WG.callV (v:=.int .i64 (lcmN P1 P2:Int)) en179 rfl rfl (by decide) (CallOp.mk' rfl rfl rfl rfl) (fun _=>rfl) (fun hg=>by rw[hP1,hP2];exact Common_V (by omega) (by omega)) ?_
   refine zR 1 rfl (zN (zU (zQ (zG (zR 2 rfl (zN (zU ?_)))))))
   refine cD rfl ?_ ?_<;>intro hc2
   ·
    refine zQ (zG ?_)
    refine yW [] ?_
    refine yW [] ?_
    refine zE 1 ?_
    refine zE 0 ?_
    refine zR 2 rfl (zN (zU (zT (wt ?_))))
    refine WE.retF tab_ok [_,_,_,_] rfl ⟨⟨_,_,_,rfl,rfl,rfl,qB,rfl⟩,⟨_,_,_,rfl,rfl,rfl,qB,rfl⟩,rfl,rfl,trivial⟩ (hR1.trans hR2) ?_
    exact⟨rfl,qS⟩
   ·
    omega
theorem PBoth_ok {R:Ro} {fa:Option Addr} {fc:Nat} {cf:Cv} (hvf:validB cf=true) (ha:RS R 1 encI fa cf.vals) {ga:Option Addr} {gc:Nat} {cg:Cv} (hvg:validB cg=true) (hb:RS R 1 encI ga cg.vals) (hl:lcmC (normR cf) (normR cg)≤120) (w0:World) (E:List Ent):K.Fn Tryz.prog 153 [.agg #[.slice fa cf.vals.length fc,.int .i64 cf.per,.int .i64 cf.inc],.agg #[.slice ga cg.vals.length gc,.int .i64 cg.per,.int .i64 cg.inc]] w0 R E (fun v R' E'=>∃ (a1 a2:Option Addr) (c1 c2:Nat),v=.tuple #[.agg #[.slice a1 (normR cf).vals.length c1,.int .i64 (normR cf).per,.int .i64 (normR cf).inc],.agg #[.slice a2 (normR cg).vals.length c2,.int .i64 (normR cg).per,.int .i64 (normR cg).inc],.int .i64 (lcmC (normR cf) (normR cg):Int),.int .i64 0]∧RS R' 1 encI a1 (normR cf).vals∧RS R' 1 encI a2 (normR cg).vals∧E.Sublist E'):=by
 have hnf:=norm_nrm hvf
 have hng:=norm_nrm hvg
 obtain⟨_,f1,f2,f3,f4,f5,f6,f7⟩:=valid_range hnf.valid
 obtain⟨_,g1,g2,g3,g4,g5,g6,g7⟩:=valid_range hng.valid
 obtain⟨P1,hP1⟩:=Int.eq_ofNat_of_zero_le (show 0≤(normR cf).per by omega)
 obtain⟨P2,hP2⟩:=Int.eq_ofNat_of_zero_le (show 0≤(normR cg).per by omega)
 have hlc:lcmC (normR cf) (normR cg)=lcmN P1 P2:=by unfold lcmC;rw[hP1,hP2];rfl
 have hlb:lcmN P1 P2≤14400:=Nat.le_trans (lcmN_facts (by omega) (by omega)).2.2.1 (Nat.mul_le_mul (show P1≤120 by omega) (show P2≤120 by omega))
 have hlp:=(lcmN_facts (a:=P1) (b:=P2) (by omega) (by omega)).2.2.2
 rw[hlc] at hl
 rw[hlc]
 refine fE 40 Tryz.func153 ?_
 refine zQ (zG ?_)
 refine zO fun b2=>?_
 refine zO fun b3=>?_
 refine zA fun b4=>?_
 refine zA fun b5=>?_
 refine zR 2 rfl (zN (zU (zQ (zQ (zG ?_)))))
 refine yB 3 ?_
 refine WL.call en141 rfl rfl qD (CallOp.mkT rfl rfl rfl rfl) (CNormalV_C hvf ha w0 _) ?_
 rintro _ R1 _ hR1 ⟨fa1x,ca1x,rfl,ha1x,hsub⟩
 refine WL.subE hsub ?_
 unfold cvV
 dsimp only at ha1x ⊢
 have hb:=hb.mono hR1
 refine zR 3 rfl ?_
 refine zE 1 ?_
 refine zR 1 rfl (zN (zU (zQ (zG (zR 2 rfl (zN (zU ?_)))))))
 refine cN rfl ?_ ?_<;>intro hc0
 ·
  exact absurd rfl hc0
 ·
  refine zK (zU (zQ (zQ (zG ?_))))
  refine yB 2 ?_
  refine WL.call en141 rfl rfl qD (CallOp.mkT rfl rfl rfl rfl) (CNormalV_C hvg hb w0 _) ?_
  rintro _ R2 _ hR2 ⟨fa2x,ca2x,rfl,ha2x,hsub⟩
  refine WL.subE hsub ?_
  unfold cvV
  dsimp only at ha2x ⊢
  have ha1x:=ha1x.mono hR2
  refine zR 3 rfl ?_
  refine zE 0 ?_
  refine zR 1 rfl (zN (zU (zQ (zG (zR 2 rfl (zN (zU ?_)))))))
  refine cN rfl ?_ ?_<;>intro hc1
  ·
   exact absurd rfl hc1
  ·
   refine zK (zU (zQ (zQ (zG (zR 1 rfl ?_)))))
   refine yM 1 ?_
   refine zR 1 rfl ?_
   refine yM 0 ?_
   refine WG.callV (v:=.int .i64 (lcmN P1 P2:Int)) en179 rfl rfl (by decide) (CallOp.mk' rfl rfl rfl rfl) (fun _=>rfl) (fun hg=>by rw[hP1,hP2];exact Common_V (by omega) (by omega)) ?_
   refine zR 1 rfl (zN (zU (zQ (zG (zR 2 rfl (zN (zU ?_)))))))
   refine cD rfl ?_ ?_<;>intro hc2
   ·
    omega
   ·
    refine zK (zU (zQ ?_))
    refine W.regionH _ (ES:=[]) mixed ?_
    refine tP 2 ?_
    refine WA.br2 (i:=0) (j:=1) qK ?_ ?_
    ·
     refine sL (Rd.blk 1 rfl) ?_
     refine WA.br2 (i:=1) (j:=3) qK ?_ ?_
     ·
      refine sL (Rd.blk 0 rfl) ?_
      refine zCE 3 1 ?_
      refine zCE 4 0 ?_
      refine tP 5 ?_
      refine tP 6 ?_
      refine WA.done qK ?_
      refine zU (zT ?_)
      refine WE.retF tab_ok [_,_,_,_] rfl ⟨⟨_,_,_,rfl,rfl,rfl,qB,rfl⟩,⟨_,_,_,rfl,rfl,rfl,qB,rfl⟩,rfl,rfl,trivial⟩ (hR1.trans hR2) ?_
      exact⟨_,_,_,_,rfl,ha1x,ha2x,qS⟩
     ·
      refine WS.effN rfl rfl rfl (Ef.store0 1 tab_ok rfl rfl rfl rfl rfl rfl rfl rfl ?_)
      refine⟨qR,qS,?_⟩
      refine lL 1 (Rd.blk 0 rfl) ?_
      refine zCE 4 0 ?_
      refine tP 5 ?_
      refine tP 6 ?_
      refine WA.done qK ?_
      refine zU (zT ?_)
      refine WE.retF tab_ok [_,_,_,_] rfl ⟨⟨_,_,_,rfl,rfl,rfl,qB,rfl⟩,⟨_,_,_,rfl,rfl,rfl,qB,rfl⟩,rfl,rfl,trivial⟩ (hR1.trans hR2) ?_
      exact⟨_,_,_,_,rfl,ha1x,ha2x,qS⟩
    ·
     refine sL (Rd.blk 0 rfl) ?_
     refine lL 0 (Rd.blk 1 rfl) ?_
     refine zCE 3 1 ?_
     refine zCE 4 0 ?_
     refine tP 5 ?_
     refine tP 6 ?_
     refine WA.done qK ?_
     refine zU (zT ?_)
     refine WE.retF tab_ok [_,_,_,_] rfl ⟨⟨_,_,_,rfl,rfl,rfl,qB,rfl⟩,⟨_,_,_,rfl,rfl,rfl,qB,rfl⟩,rfl,rfl,trivial⟩ (hR1.trans hR2) ?_
     exact⟨_,_,_,_,rfl,ha1x,ha2x,qS⟩
theorem PBoth_C {R:Ro} {fa:Option Addr} {fc:Nat} {cf:Cv} (hvf:validB cf=true) (ha:RS R 1 encI fa cf.vals) {ga:Option Addr} {gc:Nat} {cg:Cv} (hvg:validB cg=true) (hb:RS R 1 encI ga cg.vals) (w0:World) (E:List Ent):K.Fn Tryz.prog 153 [.agg #[.slice fa cf.vals.length fc,.int .i64 cf.per,.int .i64 cf.inc],.agg #[.slice ga cg.vals.length gc,.int .i64 cg.per,.int .i64 cg.inc]] w0 R E (fun v R' E'=>∃ (a1 a2:Option Addr) (c1 c2:Nat) (x y:Cv) (l e:Int),v=.tuple #[.agg #[.slice a1 x.vals.length c1,.int .i64 x.per,.int .i64 x.inc],.agg #[.slice a2 y.vals.length c2,.int .i64 y.per,.int .i64 y.inc],.int .i64 l,.int .i64 e]∧RS R' 1 encI a1 x.vals∧RS R' 1 encI a2 y.vals∧((120<lcmC (normR cf) (normR cg)∧e=3)∨(lcmC (normR cf) (normR cg)≤120∧x=normR cf∧y=normR cg∧l=(lcmC (normR cf) (normR cg):Int)∧e=0))∧E.Sublist E'):=by
 rcases Nat.lt_or_ge 120 (lcmC (normR cf) (normR cg)) with hl|hl
 ·refine(PBoth_lim hvf ha hvg hb hl w0 E).mono ?_
  rintro v R' E' hR ⟨rfl,hsub⟩
  exact⟨none,none,0,0,zcv,zcv,0,3,rfl,rs_nil,rs_nil,.inl ⟨hl,rfl⟩,hsub⟩
 ·refine(PBoth_ok hvf ha hvg hb hl w0 E).mono ?_
  rintro v R' E' hR ⟨a1,a2,c1,c2,rfl,h1,h2,hsub⟩
  exact⟨a1,a2,c1,c2,_,_,_,0,rfl,h1,h2,.inr ⟨hl,rfl,rfl,rfl,rfl⟩,hsub⟩
theorem SumF_V {R:Ro} {fa:Option Addr} {fc:Nat} {cf:Cv} (hvf:validB cf=true) (ha:RS R 1 encI fa cf.vals) {ga:Option Addr} {gc:Nat} {cg:Cv} (hvg:validB cg=true) (hb:RS R 1 encI ga cg.vals) {b6 b7:Nat} (h6:R b6=some [.slice fa cf.vals.length fc,.int .i64 cf.per,.int .i64 cf.inc]) (h7:R b7=some [.slice ga cg.vals.length gc,.int .i64 cg.per,.int .i64 cg.inc]) {t:Nat} (ht:t≤1000000):FnV Tryz.prog 154 [.int .i64 (t:Int),.pointer (some ⟨b6,0,none⟩),.pointer (some ⟨b7,0,none⟩)] R (.int .i64 (plusF cf cg t)):=by
 refine Fn.toV (fun w0 E=>?_)
 have hbf:=cvF_bound hvf t
 have hbg:=cvF_bound hvg t
 have i1:=isInf_iff hvf (t:=t) (by omega)
 have i2:=isInf_iff hvg (t:=t) (by omega)
 have hpl:plusF cf cg t=if cvF cf t=4611686018427387904∨cvF cg t=4611686018427387904 then 4611686018427387904 else cvF cf t+cvF cg t:=by
  unfold plusF
  by_cases h:isInf cf t∨isInf cg t
  ·rw[if_pos h];exact(if_pos (h.imp i1.1 i2.1)).symm
  ·rw[if_neg h];exact(if_neg (fun hh=>h (hh.imp i1.2 i2.2))).symm
 unfold INF at hbf hbg
 refine fE 12 Tryz.func154 ?_
 refine zQ (zG (zR 1 rfl (zN (zU (zQ ?_)))))
 refine W.regionQ _ mixed qK ?_
 refine yD (r:=by exact Rd.ro h6) (k:=?_)
 refine zR 1 rfl ?_
 refine WG.callV en109 rfl rfl qD (CallOp.mk' rfl rfl rfl rfl) (fun _=>rfl) (fun hg=>WAtG_V hvf ha qO) ?_
 refine yD (r:=by exact Rd.ro h7) (k:=?_)
 refine zR 1 rfl ?_
 refine WG.callV en109 rfl rfl qD (CallOp.mk' rfl rfl rfl rfl) (fun _=>rfl) (fun hg=>WAtG_V hvg hb qO) ?_
 refine WG.callV en148 rfl rfl qD (CallOp.mk' rfl rfl rfl rfl) (fun _=>rfl) (fun hg=>WPlus_V qO qO) ?_
 refine zR 1 rfl (zN (zU (zT ?_)))
 refine sE (E:=E) ?_
 refine zr1 ?_
 exact⟨by rw[hpl];rfl,rfl⟩
set_option maxHeartbeats 1000000 in
theorem PSum_C {R:Ro} {fa:Option Addr} {fc:Nat} {cf:Cv} (hvf:validB cf=true) (ha:RS R 1 encI fa cf.vals) {ga:Option Addr} {gc:Nat} {cg:Cv} (hvg:validB cg=true) (hb:RS R 1 encI ga cg.vals) (w0:World) (E:List Ent):K.Fn Tryz.prog 120 [.agg #[.slice fa cf.vals.length fc,.int .i64 cf.per,.int .i64 cf.inc],.agg #[.slice ga cg.vals.length gc,.int .i64 cg.per,.int .i64 cg.inc]] w0 R E (fun r R' E'=>∃ (f:Option Addr) (fc:Nat),r=cvV f fc (sumC cf cg)∧RS R' 1 encI f (sumC cf cg).1.vals∧E.Sublist E'):=by
 have hnf:=norm_nrm hvf
 have hng:=norm_nrm hvg
 obtain⟨_,f1,f2,f3,f4,f5,f6,f7⟩:=valid_range hnf.valid
 obtain⟨_,g1,g2,g3,g4,g5,g6,g7⟩:=valid_range hng.valid
 obtain⟨P1,hP1⟩:=Int.eq_ofNat_of_zero_le (show 0≤(normR cf).per by omega)
 obtain⟨P2,hP2⟩:=Int.eq_ofNat_of_zero_le (show 0≤(normR cg).per by omega)
 have hlc:lcmC (normR cf) (normR cg)=lcmN P1 P2:=by unfold lcmC;rw[hP1,hP2];rfl
 have hlb:lcmN P1 P2≤14400:=Nat.le_trans (lcmN_facts (by omega) (by omega)).2.2.1 (Nat.mul_le_mul (show P1≤120 by omega) (show P2≤120 by omega))
 have hlp:=(lcmN_facts (a:=P1) (b:=P2) (by omega) (by omega)).2.2.2
 have hs1:=stN_lt hnf.valid
 have hs2:=stN_lt hng.valid
 refine fE 41 Tryz.func120 ?_
 refine zQ (zG ?_)
 refine zO fun b2=>?_
 refine zO fun b3=>?_
 refine zA fun b4=>?_
 refine zR 1 rfl (zN (zU (zQ (zG ?_))))
 refine yB 2 ?_
 refine yB 1 ?_
 refine WL.call en153 rfl rfl qD (CallOp.mkT rfl rfl rfl rfl) (PBoth_C hvf ha hvg hb w0 _) ?_
 rintro _ R1 _ hR1 ⟨a1,a2,c1,c2,x,y,l,e,rfl,hx1,hx2,hcase,hsub⟩
 refine WL.subE hsub ?_
 refine zR 5 rfl ?_
 refine zA fun b6=>?_
 refine zA fun b7=>?_
 refine zE 1 ?_
 refine zE 0 ?_
 refine zR 2 rfl (zN (zU (zQ (zQ (zG (zR 2 rfl (zN (zU ?_))))))))
 refine cN rfl ?_ ?_<;>intro hc0
 ·
  obtain⟨hl,rfl⟩:120<lcmC (normR cf) (normR cg)∧e=3:=by
   rcases hcase with h|h
   ·exact h
   ·exact absurd h.2.2.2.2 (by omega)
  have hd:sumC cf cg=(zcv,3):=by unfold sumC;rw[if_neg (by rw[hvf,hvg];simp),if_pos (by omega)]
  refine zQ (zG ?_)
  refine yW [] ?_
  refine zR 1 rfl ?_
  refine zE 2 ?_
  refine zR 1 rfl (zN (zU (zT (wt ?_))))
  refine zq4 (by first|exact hR1|exact hR1.trans (hR2.trans (hR3.trans hR4))) ?_
  exact⟨none,0,by rw[hd];rfl,by rw[hd];exact rs_nil,qS⟩
 ·
  obtain⟨hl,rfl,rfl,rfl,rfl⟩:lcmC (normR cf) (normR cg)≤120∧x=normR cf∧y=normR cg∧l=(lcmC (normR cf) (normR cg):Int)∧e=0:=by
   rcases hcase with h|h
   ·exact absurd h.2 (by omega)
   ·exact h
  rw[hlc] at hl ⊢
  have hd:sumC cf cg=mbuild (plusF (normR cf) (normR cg)) (max (stN (normR cf)) (stN (normR cg))) (lcmN P1 P2) (gainC (normR cf) (lcmN P1 P2)+gainC (normR cg) (lcmN P1 P2)):=by unfold sumC;rw[if_neg (by rw[hvf,hvg];simp),if_neg (by omega),hlc]
  have hga:0≤gainC (normR cf) (lcmN P1 P2)∧gainC (normR cf) (lcmN P1 P2)≤120*1073741824:=by
   unfold gainC
   have hd0:0≤((lcmN P1 P2):Int) / (normR cf).per:=Int.ediv_nonneg (by omega) (by omega)
   have hd1:((lcmN P1 P2):Int) / (normR cf).per≤(lcmN P1 P2):=Int.ediv_le_self _ (by omega)
   exact mulB qO qO
  have hgb:0≤gainC (normR cg) (lcmN P1 P2)∧gainC (normR cg) (lcmN P1 P2)≤120*1073741824:=by
   unfold gainC
   have hd0:0≤((lcmN P1 P2):Int) / (normR cg).per:=Int.ediv_nonneg (by omega) (by omega)
   have hd1:((lcmN P1 P2):Int) / (normR cg).per≤(lcmN P1 P2):=Int.ediv_le_self _ (by omega)
   exact mulB qO qO
  have hmx:(if (stN (normR cf):Int)<(stN (normR cg):Int) then (stN (normR cg):Int) else (stN (normR cf):Int))=((max (stN (normR cf)) (stN (normR cg)):Nat):Int):=by split<;>omega
  have hpb:∀ t:Nat,t≤1000→(plusF (normR cf) (normR cg)) t=INF∨(0≤(plusF (normR cf) (normR cg)) t∧(plusF (normR cf) (normR cg)) t≤1000000000000000):=fun t ht=>by
   unfold plusF
   by_cases h:isInf (normR cf) t∨isInf (normR cg) t
   ·rw[if_pos h];exact .inl rfl
   ·rw[if_neg h]
    have a1:=fin_part hnf.valid (fun x=>h (.inl x)) (show t≤1000000000 by omega)
    have a2:=fin_part hng.valid (fun x=>h (.inr x)) (show t≤1000000000 by omega)
    right;omega
  refine zK (zU (zQ (zG (zR 2 rfl (zN (zU ?_))))))
  refine W.freezeBlk 0 rfl ?_
  intro R2 hR2 h7
  refine W.freezeBlk 0 rfl ?_
  intro R3 hR3 h6
  have h7:=hR3 _ _ h7
  have hx1:=hx1.mono (hR2.trans hR3)
  have hx2:=hx2.mono (hR2.trans hR3)
  have hF:∀ t:Nat,t<max (stN (normR cf)) (stN (normR cg))+(lcmN P1 P2)→FnV Tryz.prog 154 ((#[]:Array Value).toList++[.int .i64 (t:Int)]++(#[.pointer (some ⟨b6,0,none⟩),.pointer (some ⟨b7,0,none⟩)]:Array Value).toList) R3 (.int .i64 ((plusF (normR cf) (normR cg)) t)):=fun t ht=>SumF_V hnf.valid hx1 hng.valid hx2 h6 h7 (by omega)
  refine zQ ?_
  refine W.regionH _ (ES:=[]) mixed ?_
  refine tP 0 ?_
  refine tD 1 (r:=by(exact Rd.ro qU)) (k:=?_)
  refine tD 3 (r:=by(exact Rd.ro qU)) (k:=?_)
  refine tP 6 ?_
  refine tD 7 (r:=by(exact Rd.ro qU)) (k:=?_)
  refine tP 8 ?_
  refine tD 10 (r:=by(exact Rd.ro qU)) (k:=?_)
  refine tP 11 ?_
  refine WA.callG 2 rfl qK en143 rfl (by first|rfl|decide) rfl qD (CallOp.mkT rfl rfl rfl rfl) ((WStartG_V hnf.valid hx1).toFn) ?_
  rintro _ _ _ - ⟨rfl,rfl,rfl⟩
  refine⟨qR,qS,?_⟩
  refine WA.callG 4 rfl qK en143 rfl (by first|rfl|decide) rfl qD (CallOp.mkT rfl rfl rfl rfl) ((WStartG_V hng.valid hx2).toFn) ?_
  rintro _ _ _ - ⟨rfl,rfl,rfl⟩
  refine⟨qR,qS,?_⟩
  refine tP 5 ?_
  refine WA.callG 9 rfl qK en155 rfl (by first|rfl|decide) rfl qD (CallOp.mkT rfl rfl rfl rfl) ((PGainG_V hnf.valid hx1 qO).toFn) ?_
  rintro _ _ _ - ⟨rfl,rfl,rfl⟩
  refine⟨qR,qS,?_⟩
  refine WA.callG 12 rfl qK en155 rfl (by first|rfl|decide) rfl qD (CallOp.mkT rfl rfl rfl rfl) ((PGainG_V hng.valid hx2 qO).toFn) ?_
  rintro _ _ _ - ⟨rfl,rfl,rfl⟩
  refine⟨qR,qS,?_⟩
  refine tA 13 ?_
  refine WA.callG 14 rfl qK en144 rfl (by first|rfl|decide) rfl qD (CallOp.mkT rfl rfl rfl rfl) (hmx ▸ Build_C (S:=max (stN (normR cf)) (stN (normR cg))) (P:=(lcmN P1 P2)) (F:=(plusF (normR cf) (normR cg))) en154 qO qO qO (fun t ht=>hpb t qO) hF w0 _) ?_
  rintro _ R4 E4 hR4 ⟨fr,frc,rfl,hfr,hsub⟩
  refine⟨hR4,List.nil_sublist _,?_⟩
  refine WA.subE hsub ?_
  rw[← hd] at hfr ⊢
  unfold cvV
  refine tP 15 ?_
  refine tP 16 ?_
  refine zCE 17 0 ?_
  refine tP 18 ?_
  refine WA.done qK ?_
  refine zU (zT ?_)
  refine zq4 (by first|exact hR1|exact hR1.trans (hR2.trans (hR3.trans hR4))) ?_
  exact⟨fr,frc,rfl,hfr,qS⟩

theorem HopOf_V {R:Ro} {na la fa:Option Addr} {nc lc fc nn nl:Nat} {fs:List FlM} (hfa:K.RS R 8 encFl fa fs) (hof:∀ m∈fs,OkFl R m) {i h:Nat} (hif:i<fs.length) (hh:h<(nth fs i).f.route.length):FnV Tryz.prog 191 [.agg #[.slice na nn nc,.slice la nl lc,.slice fa fs.length fc],.int .i64 (i:Int),.int .i64 (h:Int)] R (.bool true):=by
 have hrt:=(hof _ (nth_mem hif)).route
 have hrl:=hrt.len
 refine Fn.toVS (fun w0 E=>?_)
 refine fE 31 Tryz.func191 ?_
 refine zQ (zG ?_)
 refine zO fun b3=>?_
 refine zR 1 rfl (zN (zU (zQ (zG (zR 3 rfl ?_)))))
 refine yP ?_
 refine yP ?_
 refine yG (Rd.addC (Rd.blkC 0 rfl) _) ?_
 refine yP ?_
 refine yP ?_
 refine yN ?_
 refine zR 1 rfl ?_
 refine yP ?_
 refine yP ?_
 refine yN ?_
 refine zR 1 rfl ?_
 refine yP ?_
 refine yP ?_
 refine yG (Rd.addC (Rd.blkC 0 rfl) _) ?_
 refine yP ?_
 refine gI ?_
 refine yP ?_
 refine yJ (r:=by apply Rd.addC;((apply RS.rdC;assumption))) (k:=?_)
 refine yP ?_
 refine yP ?_
 refine yN ?_
 refine zR 1 rfl (zN (zU (zT ?_)))
 refine zr1 ?_
 refine⟨?_,qS⟩
 show Value.bool _=Value.bool true
 simp;omega

theorem POne_C {R:Ro} {fa:Option Addr} {fc:Nat} {cf:Cv} (hvf:validB cf=true) (ha:RS R 1 encI fa cf.vals) {k low high:Int} (hk:low≤k∧k≤high) (w0:World) (E:List Ent):K.Fn Tryz.prog 213 [.agg #[.slice fa cf.vals.length fc,.int .i64 cf.per,.int .i64 cf.inc],.int .i64 k,.int .i64 low,.int .i64 high] w0 R E (fun r R' E'=>∃ (f:Option Addr) (fc:Nat),r=cvV f fc (normR cf,0)∧RS R' 1 encI f ((normR cf,(0:Int))).1.vals∧E.Sublist E'):=by
 refine fE 31 Tryz.func213 ?_
 refine zQ (zG ?_)
 refine zO fun b4=>?_
 refine zA fun b8=>?_
 refine zR 1 rfl (zN (zU (zQ (zG ?_))))
 refine yB 1 ?_
 refine WL.call en141 rfl rfl qD (CallOp.mkT rfl rfl rfl rfl) (CNormalV_C hvf ha w0 _) ?_
 rintro _ R1 _ hR1 ⟨fa1x,ca1x,rfl,ha1x,hsub⟩
 refine WL.subE hsub ?_
 unfold cvV
 dsimp only at ha1x ⊢
 refine zR 3 rfl ?_
 refine zA fun b10=>?_
 refine zE 0 ?_
 refine zR 1 rfl (zN (zU (zQ (zQ (zG (zR 2 rfl (zN (zU ?_))))))))
 refine cN rfl ?_ ?_<;>intro hc0
 ·
  exact absurd rfl hc0
 ·
  refine zK (zU (zQ (zQ (zG (zR 4 rfl ?_)))))
  refine yP ?_
  refine yP ?_
  refine yP ?_
  refine yO ?_
  refine zN (zU ?_)
  refine cC rfl ?_ ?_<;>intro hc1
  ·try simp only[zk] at hc1
   omega
  ·try simp only[zk] at hc1
   refine zK (zU (zQ (zG ?_)))
   refine yB 0 ?_
   refine zE 1 ?_
   refine zR 1 rfl (zN (zU (zT ?_)))
   refine zq4 (hR1) ?_
   exact⟨_,_,rfl,ha1x,qS⟩
theorem FlatF_V {R:Ro} {b1:Nat} {k:Int} (h1:R b1=some [.int .i64 k]) (hk:0≤k∧k≤1073741824) {t:Nat} (ht:t≤1000000):FnV Tryz.prog 218 [.int .i64 (t:Int),.pointer (some ⟨b1,0,none⟩)] R (.int .i64 (flatF k t)):=by
 refine Fn.toV (fun w0 E=>?_)
 have hfl:k*(if (1:Int)<(t:Int) then (1:Int) else (t:Int))=flatF k t:=by
  unfold flatF
  by_cases h:t=0
  ·subst h;simp
  ·rw[if_neg h,show (if (1:Int)<(t:Int) then (1:Int) else (t:Int))=1 by split<;>omega,Int.mul_one]
 have hfb:0≤flatF k t∧flatF k t≤1073741824:=by unfold flatF;split<;>omega
 refine fE 8 Tryz.func218 ?_
 refine zQ (zG (zR 1 rfl (zN (zU (zQ (zG ?_))))))
 refine yD (r:=by exact Rd.ro h1) (k:=?_)
 refine zR 2 rfl ?_
 refine yU ?_
 refine zR 1 rfl (zN (zU (zT ?_)))
 refine sE (E:=E) ?_
 refine zr1 ?_
 exact⟨by rw[← hfl];rfl,rfl⟩
theorem CFlat_C {R:Ro} {k:Int} (hk:0≤k∧k≤1073741824) (w0:World) (E:List Ent):K.Fn Tryz.prog 199 [.int .i64 k] w0 R E (fun r R' E'=>∃ (f:Option Addr) (fc:Nat),r=cvV f fc (flatC k)∧RS R' 1 encI f (flatC k).1.vals∧E.Sublist E'):=by
 have hd:flatC k=mbuild (flatF k) 1 1 0:=rfl
 refine fE 14 Tryz.func199 ?_
 refine zQ (zG ?_)
 refine zO fun b1=>?_
 refine zA fun b2=>?_
 refine zR 1 rfl (zN (zU (zQ (zQ (zG ?_)))))
 refine yB 1 ?_
 refine zR 1 rfl (zN (zU ?_))
 refine cD rfl ?_ ?_<;>intro hc0
 ·
  omega
 ·
  refine zK (zU (zQ (zQ (zG ?_))))
  refine yB 1 ?_
  refine zR 1 rfl (zN (zU ?_))
  refine cD rfl ?_ ?_<;>intro hc1
  ·
   omega
  ·
   refine zK (zU ?_)
   refine W.freezeBlk 1 rfl ?_
   intro R2 hR2 h1
   have hF:∀ t:Nat,t<1+1→FnV Tryz.prog 218 ((#[]:Array Value).toList++[.int .i64 (t:Int)]++(#[.pointer (some ⟨b1,0,none⟩)]:Array Value).toList) R2 (.int .i64 (flatF k t)):=fun t ht=>FlatF_V h1 hk (by omega)
   refine zQ (zG (zR 1 rfl ?_))
   refine WL.call en144 rfl rfl qD (CallOp.mkT rfl rfl rfl rfl) (Build_C (S:=1) (P:=1) (F:=flatF k) en218 qO qO qO (fun t ht=>.inr (flatF_bound hk t)) hF w0 _) ?_
   rintro _ R4 E4 hR4 ⟨fr,frc,rfl,hfr,hsub⟩
   refine WL.subE hsub ?_
   rw[← hd] at hfr ⊢
   unfold cvV
   refine zR 2 rfl ?_
   refine zE 0 ?_
   refine zR 1 rfl (zN (zU (zT ?_)))
   refine zq4 (hR2.trans hR4) ?_
   exact⟨fr,frc,rfl,hfr,qS⟩
set_option maxHeartbeats 1000000 in
theorem PTotal_C {R:Ro} {la:Option Addr} {lc:Nat} {ls:List CvS} (hla:RS R 3 encC la ls) (hls:∀ x∈ls,RS R 1 encI x.a x.cv.vals∧validB x.cv=true) (w0:World) (E:List Ent):K.Fn Tryz.prog 159 [.slice la ls.length lc] w0 R E (fun r R' E'=>∃ (f:Option Addr) (fc:Nat),r=cvV f fc (totalC (ls.map CvS.cv))∧RS R' 1 encI f (totalC (ls.map CvS.cv)).1.vals∧E.Sublist E'):=by
 have hll:=hla.len
 have hz0:flatC 0=(zeroC,0):=flat_zero
 refine fE 31 Tryz.func159 ?_
 refine zQ (zG ?_)
 refine zA fun b2=>?_
 refine zR 1 rfl (zN (zU (zQ (zG ?_))))
 refine WL.call en199 rfl rfl qD (CallOp.mkT rfl rfl rfl rfl) (CFlat_C (k:=0) qD w0 _) ?_
 rintro _ R1 _ hR1 ⟨fz,fzc,rfl,hfz,hsub⟩
 refine WL.subE hsub ?_
 rw[hz0] at hfz ⊢
 unfold cvV
 dsimp only at hfz ⊢
 refine zR 3 rfl ?_
 refine zA fun b4=>?_
 refine zE 0 ?_
 refine zR 1 rfl (zN (zU (zQ (zQ (zG (zR 3 rfl (zN (zU (zB ?_)))))))))
 refine W.loopR (β:=Nat × Cv × Option Addr × Nat × Ro) (fun (i,s,sa,sc,Rk)=>i≤ls.length∧RLe R1 Rk∧Nrm s∧RS Rk 1 encI sa s.vals∧totalC (ls.map CvS.cv)=totalGo s ((ls.map CvS.cv).drop i)) (fun (i,s,sa,sc,Rk)=>[(5,true,.int .i64 0),(14,true,.int .i64 (i:Int))]) [2,4,12,13] [_,_,_,_] [] _ rfl (fun (i,s,sa,sc,Rk)=>[(0,.blk b4 [.slice sa s.vals.length sc,.int .i64 s.per,.int .i64 s.inc])]) (fun (i,s,sa,sc,Rk)=>Rk) (fun (i,s,sa,sc,Rk)=>ls.length - i) ((0,zeroC,fz,fzc,R1)) (⟨Nat.zero_le _,RLe.refl _,zero_nrm,hfz,rfl⟩) ⟨rfl,rfl,rfl,rfl,rfl,rfl,rfl⟩ (RLe.refl _) qS ?_
 intro zz hst
 obtain⟨i,s,sa,sc,Rk⟩:=zz
 obtain⟨hi,hRk,hns,hsa,htot⟩:=hst
 have hla:=hla.mono (hR1.trans hRk)
 refine zQ (zG (zR 1 rfl (zN (zU (zQ ?_)))))
 refine cD rfl ?_ ?_<;>intro hc0
 ·
  have hil:i<ls.length:=by omega
  have hxi:=hls _ (nth_mem hil)
  have hvx:=hxi.2
  have hxa:=hxi.1.mono (hR1.trans hRk)
  refine zK (zU (zQ (zB (zQ (zG ?_)))))
  refine yI ?_
  refine yD (r:=by((apply RS.rdD;assumption;((try dsimp only)<;>omega)))) (k:=?_)
  refine zA fun b7=>?_
  refine zE 0 ?_
  refine zN (zU (zQ (zG ?_)))
  refine yB 1 ?_
  refine yB 0 ?_
  refine WL.call en120 rfl rfl qD (CallOp.mkT rfl rfl rfl rfl) (PSum_C hns.valid hsa hvx hxa w0 _) ?_
  rintro _ R2 _ hR2 ⟨fr,frc,rfl,hfr,hsub⟩
  refine WL.subE hsub ?_
  unfold cvV
  have hgo:totalC (ls.map CvS.cv)=if (sumC s (nth ls i).cv).2≠0 then (zcv,(sumC s (nth ls i).cv).2) else totalGo (sumC s (nth ls i).cv).1 ((ls.map CvS.cv).drop (i+1)):=by
   rw[htot,drop_map_cons hil]
   rfl
  have hsr:=sum_res hns.valid hvx
  generalize sumC s (nth ls i).cv=sr at hfr hgo hsr ⊢
  obtain⟨sv,se⟩:=sr
  dsimp only at hfr hgo hsr ⊢
  refine zR 3 rfl ?_
  refine zE 1 ?_
  refine zR 1 rfl (zN (zU (zQ (zG (zR 2 rfl (zN (zU ?_)))))))
  refine cN rfl ?_ ?_<;>intro hc1
  ·
   have hd:totalC (ls.map CvS.cv)=(zcv,se):=by rw[hgo,if_pos hc1]
   refine zQ (zG ?_)
   refine yW [] ?_
   refine zR 1 rfl ?_
   refine zE 2 ?_
   refine zR 1 rfl (zN (zU (zT (wb (wt (wt (wb (wt ?_))))))))
   refine zq4 (by first|exact hR1.trans (hRk.trans hR2)|exact hR1.trans hRk) ?_
   exact⟨none,0,by rw[hd];rfl,by rw[hd];exact rs_nil,qS⟩
  ·
   have hd2:totalC (ls.map CvS.cv)=totalGo sv ((ls.map CvS.cv).drop (i+1)):=by rw[hgo,if_neg (fun h=>h hc1)]
   obtain⟨rfl,hnsv⟩:se=0∧Nrm sv:=by
    rcases hsr with h|⟨c,h1,h2,_⟩
    ·have:=congrArg Prod.snd h;dsimp only at this;omega
    ·have e1:=congrArg Prod.fst h1
     have e2:=congrArg Prod.snd h1
     dsimp only at e1 e2
     exact⟨e2,by rw[e1];exact h2⟩
   refine zK (zL (zU (zG ?_)))
   refine yA ?_
   refine zR 1 rfl (zN ?_)
   refine WE.again ((i+1,sv,fr,frc,R2)) (⟨by dsimp only;omega,hRk.trans hR2,hnsv,hfr,hd2⟩) (by(try dsimp only);omega) ⟨rfl,rfl,rfl,rfl,rfl,rfl,rfl⟩ (RLe.refl _) qS
 ·
  obtain rfl:i=ls.length:=by omega
  have hd:totalC (ls.map CvS.cv)=(s,0):=by rw[htot,List.drop_eq_nil_of_le (by simp)];rfl
  refine zX ?_
  refine wx (wx (zY (zU (zQ (zG ?_)))))
  refine yB 0 ?_
  refine zR 1 rfl ?_
  refine zE 1 ?_
  refine zR 1 rfl (zN (zU (zT ?_)))
  refine zq4 (by first|exact hR1.trans (hRk.trans hR2)|exact hR1.trans hRk) ?_
  exact⟨sa,sc,by rw[hd];rfl,by rw[hd];exact hsa,qS⟩

theorem AheadF_V {R:Ro} {fa:Option Addr} {fc:Nat} {cf:Cv} (hvf:validB cf=true) (ha:RS R 1 encI fa cf.vals) {b6 b3:Nat} {d:Nat} (h6:R b6=some [.slice fa cf.vals.length fc,.int .i64 cf.per,.int .i64 cf.inc]) (h3:R b3=some [.int .i64 (d:Int)]) (hk:d≤2000) {t:Nat} (ht:t≤1000000):FnV Tryz.prog 214 [.int .i64 (t:Int),.pointer (some ⟨b6,0,none⟩),.pointer (some ⟨b3,0,none⟩)] R (.int .i64 (aheadF cf d t)):=by
 refine Fn.toV (fun w0 E=>?_)
 refine fE 12 Tryz.func214 ?_
 refine zQ (zG (zR 1 rfl (zN (zU (zQ (zQ (zG (zR 2 rfl (zN (zU ?_))))))))))
 refine cE rfl ?_ ?_<;>intro hc0
 ·
  obtain rfl:t=0:=by omega
  have hpl:aheadF cf d 0=0:=if_pos rfl
  refine zQ (zG (zR 1 rfl (zN (zU (zT (wt ?_))))))
  refine sE (E:=E) ?_
  refine zr1 ?_
  exact⟨by rw[hpl];rfl,rfl⟩
 ·
  have hpl:aheadF cf d t=cvF cf (t+d):=if_neg (by omega)
  refine zK (zU (zQ (zG ?_)))
  refine yD (r:=by exact Rd.ro h6) (k:=?_)
  refine zR 1 rfl ?_
  refine yD (r:=by exact Rd.ro h3) (k:=?_)
  refine yA ?_
  refine WG.callV (v:=.int .i64 (cvF cf (t+d))) en109 rfl rfl qD (CallOp.mk' rfl rfl rfl rfl) (fun _=>rfl) (fun hg=>WAtG_V (t:=t+d) hvf ha qO) ?_
  refine zR 1 rfl (zN (zU (zT ?_)))
  refine sE (E:=E) ?_
  refine zr1 ?_
  exact⟨by rw[hpl];rfl,rfl⟩
set_option maxHeartbeats 1000000 in
theorem PAhead_C {R:Ro} {fa:Option Addr} {fc:Nat} {cf:Cv} (hvf:validB cf=true) (ha:RS R 1 encI fa cf.vals) {d:Nat} (hk:d≤2000) (w0:World) (E:List Ent):K.Fn Tryz.prog 193 [.agg #[.slice fa cf.vals.length fc,.int .i64 cf.per,.int .i64 cf.inc],.int .i64 (d:Int)] w0 R E (fun r R' E'=>∃ (f:Option Addr) (fc:Nat),r=cvV f fc (aheadC cf d)∧RS R' 1 encI f (aheadC cf d).1.vals∧E.Sublist E'):=by
 have hnf:=norm_nrm hvf
 obtain⟨_,f1,f2,f3,f4,f5,f6,f7⟩:=valid_range hnf.valid
 have hst:=stN_lt hnf.valid
 have hd:aheadC cf d=mbuild (aheadF (normR cf) d) (max 1 (stN (normR cf) - d)) (normR cf).per.toNat (normR cf).inc:=rfl
 have hperI:(((normR cf).per.toNat:Nat):Int)=(normR cf).per:=by omega
 have hmx:(if (1:Int)<(stN (normR cf):Int) - (d:Int) then (stN (normR cf):Int) - (d:Int) else (1:Int))=((max 1 (stN (normR cf) - d):Nat):Int):=by split<;>omega
 have hpb:∀ t:Nat,t≤1000→(aheadF (normR cf) d) t=INF∨(0≤(aheadF (normR cf) d) t∧(aheadF (normR cf) d) t≤1000000000000000):=fun t ht=>by
  unfold aheadF
  by_cases h0:t=0
  ·rw[if_pos h0];right;omega
  ·rw[if_neg h0]
   by_cases h:isInf (normR cf) (t+d)
   ·exact .inl ((isInf_iff hnf.valid (by omega)).1 h)
   ·have a1:=fin_part hnf.valid h (show t+d≤1000000000 by omega)
    right;omega
 refine fE 33 Tryz.func193 ?_
 refine zQ (zG ?_)
 refine zO fun b2=>?_
 refine zO fun b3=>?_
 refine zA fun b4=>?_
 refine zR 1 rfl (zN (zU (zQ (zG ?_))))
 refine yB 2 ?_
 refine yB 1 ?_
 refine WL.call en213 rfl rfl qD (CallOp.mkT rfl rfl rfl rfl) (POne_C hvf ha qO w0 _) ?_
 rintro _ R1 _ hR1 ⟨a1,c1,rfl,hx1,hsub⟩
 refine WL.subE hsub ?_
 unfold cvV
 dsimp only at hx1 ⊢
 refine zR 3 rfl ?_
 refine zA fun b6=>?_
 refine zE 0 ?_
 refine zR 1 rfl (zN (zU (zQ (zQ (zG (zR 2 rfl (zN (zU ?_))))))))
 refine cN rfl ?_ ?_<;>intro hc0
 ·
  exact absurd rfl hc0
 ·
  refine zK (zU (zQ (zG (zR 2 rfl (zN (zU ?_))))))
  refine W.freezeBlk 0 rfl ?_
  intro R2 hR2 h6
  refine W.freezeBlk 1 rfl ?_
  intro R3 hR3 h3
  have h6:=hR3 _ _ h6
  have hx1:=hx1.mono (hR2.trans hR3)
  have hF:∀ t:Nat,t<max 1 (stN (normR cf) - d)+(normR cf).per.toNat→FnV Tryz.prog 214 ((#[]:Array Value).toList++[.int .i64 (t:Int)]++(#[.pointer (some ⟨b6,0,none⟩),.pointer (some ⟨b3,0,none⟩)]:Array Value).toList) R3 (.int .i64 ((aheadF (normR cf) d) t)):=fun t ht=>AheadF_V hnf.valid hx1 h6 h3 hk (by omega)
  refine zQ ?_
  refine W.regionH _ (ES:=[]) mixed ?_
  refine tP 0 ?_
  refine tD 1 (r:=by(exact Rd.ro qU)) (k:=?_)
  refine tD 3 (r:=by(exact Rd.ro qU)) (k:=?_)
  refine tP 6 ?_
  refine tD 7 (r:=by apply Rd.add;(exact Rd.ro qU)) (k:=?_)
  refine tP 8 ?_
  refine tD 9 (r:=by apply Rd.add;(exact Rd.ro qU)) (k:=?_)
  refine WA.callG 2 rfl qK en143 rfl (by first|rfl|decide) rfl qD (CallOp.mkT rfl rfl rfl rfl) ((WStartG_V hnf.valid hx1).toFn) ?_
  rintro _ _ _ - ⟨rfl,rfl,rfl⟩
  refine⟨qR,qS,?_⟩
  refine tS 4 ?_
  refine tP 5 ?_
  refine WA.callG 10 rfl qK en144 rfl (by first|rfl|decide) rfl qD (CallOp.mkT rfl rfl rfl rfl) (hmx ▸ hperI ▸ Build_C (S:=max 1 (stN (normR cf) - d)) (P:=(normR cf).per.toNat) (F:=(aheadF (normR cf) d)) en214 qO qO qO (fun t ht=>hpb t qO) hF w0 _) ?_
  rintro _ R4 E4 hR4 ⟨fr,frc,rfl,hfr,hsub⟩
  refine⟨hR4,List.nil_sublist _,?_⟩
  refine WA.subE hsub ?_
  rw[← hd] at hfr ⊢
  unfold cvV
  refine tP 11 ?_
  refine tP 12 ?_
  refine zCE 13 0 ?_
  refine tP 14 ?_
  refine WA.done qK ?_
  refine zU (zT ?_)
  refine zq4 (by first|exact hR1.trans (hR2.trans (hR3.trans hR4))) ?_
  exact⟨fr,frc,rfl,hfr,qS⟩

set_option maxHeartbeats 1000000 in
theorem LAt_C {R:Ro} {na la fa:Option Addr} {nc lc fc:Nat} {names:List (List UInt8)} {ms:List LnM} {fs:List FlM} (hna:K.RS R 1 encT na names) (hla:K.RS R 5 encLn la ms) (hfa:K.RS R 8 encFl fa fs) (hokn:∀ m∈ms,OkLn R m) (hof:∀ m∈fs,OkFl R m) (hnl:∀ x∈names,x.length≤9223372036854775807) (hck:chkNet names (ms.map (·.L)) (fs.map (·.f))=0) {da:Option Addr} {dc:Nat} {ds:List Sl} (hd:RS R 1 encS da ds) (hrd:∀ r∈ds,RS R 1 encI r.a r.xs) (hsh:ShD ds ms) (hdb:∀ r∈ds,∀ x∈r.xs,0≤x∧x≤400) (hl4:∀ m∈fs,m.f.route.length≤4∧m.f.route.length≤m.c1∧validB m.f.cv=true) (hro:∀ m∈fs,∀ l∈m.f.route,0≤l∧l<ds.length) (hcl:∀ m∈fs,∀ r∈ds,0≤m.f.cls∧m.f.cls<r.xs.length) {i h:Nat} (hif:i<fs.length) (hh:h<(nth fs i).f.route.length) (w0:World) (E:List Ent):K.Fn Tryz.prog 150 [.agg #[.slice na names.length nc,.slice la ms.length lc,.slice fa fs.length fc],.slice da ds.length dc,.int .i64 (i:Int),.int .i64 (h:Int)] w0 R E (fun r R' E'=>∃ (f:Option Addr) (fc:Nat),r=cvV f fc (aheadC (nth fs i).f.cv (befS ds (nth fs i).f.cls ((nth fs i).f.route.take h)).toNat)∧RS R' 1 encI f (aheadC (nth fs i).f.cv (befS ds (nth fs i).f.cls ((nth fs i).f.route.take h)).toNat).1.vals∧E.Sublist E'):=by
 have hm4:=hl4 _ (nth_mem hif)
 have hbs:0≤(befS ds (nth fs i).f.cls ((nth fs i).f.route.take h))∧(befS ds (nth fs i).f.cls ((nth fs i).f.route.take h))≤2000:=befS_bound (hro _ (nth_mem hif)) hdb (hcl _ (nth_mem hif)) (by omega)
 have hbn:(((befS ds (nth fs i).f.cls ((nth fs i).f.route.take h)).toNat:Nat):Int)=(befS ds (nth fs i).f.cls ((nth fs i).f.route.take h)):=Int.toNat_of_nonneg hbs.1
 refine fE 44 Tryz.func150 ?_
 refine zQ (zG ?_)
 refine zO fun b4=>?_
 refine zA fun b8=>?_
 refine zR 1 rfl (zN (zU (zQ (zQ (zG ?_)))))
 refine yB 1 ?_
 refine zR 1 rfl ?_
 refine WG.callV en73 rfl rfl qD (CallOp.mk' rfl rfl rfl rfl) (fun _=>rfl) (fun hg=>Shape_V (nc:=nc) (lc:=lc) (fc:=fc) hna hla hfa hokn hof hnl hck hd hrd hsh (fun r hr x hx=>by have:=hdb r hr x hx;omega)) ?_
 refine zR 1 rfl (zN (zU ?_))
 refine cC rfl ?_ ?_<;>intro hc0
 ·try simp only[zk] at hc0
  (simp at hc0;done)
 ·try simp only[zk] at hc0
  refine zK (zU (zQ (zQ (zG ?_))))
  refine yB 1 ?_
  refine zR 2 rfl ?_
  refine WG.callV en191 rfl rfl qD (CallOp.mk' rfl rfl rfl rfl) (fun _=>rfl) (fun hg=>HopOf_V hfa hof hif hh) ?_
  refine zR 1 rfl (zN (zU ?_))
  refine cC rfl ?_ ?_<;>intro hc1
  ·try simp only[zk] at hc1
   (simp at hc1;done)
  ·try simp only[zk] at hc1
   refine zK (zU (zQ (zG ?_)))
   refine yB 1 ?_
   refine zR 3 rfl ?_
   refine WG.callV en192 rfl rfl qD (CallOp.mk' rfl rfl rfl rfl) (fun _=>rfl) (fun hg=>Bef_V hfa hof hd hrd hif qO hm4.2.1 qO (hro _ (nth_mem hif)) (fun r hr=>⟨(hcl _ (nth_mem hif) r hr).1,(hcl _ (nth_mem hif) r hr).2,hdb r hr⟩)) ?_
   refine zR 5 rfl (zN (zU (zQ (zQ (zG (zR 2 rfl (zN (zU ?_))))))))
   refine cC rfl ?_ ?_<;>intro hc2
   ·try simp only[zk] at hc2
    (simp at hc2;done)
   ·try simp only[zk] at hc2
    refine zK (zU (zQ (zG (zR 1 rfl ?_))))
    refine yM 1 ?_
    refine zR 1 rfl ?_
    refine yI ?_
    refine zR 1 rfl ?_
    refine yD (r:=by apply Rd.add;((apply RS.rdD;assumption;((try dsimp only)<;>omega)))) (k:=?_)
    refine zR 1 rfl ?_
    refine WL.call en193 rfl rfl (by decide) (CallOp.mkT rfl rfl rfl rfl) (by rw[← hbn];exact PAhead_C hm4.2.2 (hof _ (nth_mem hif)).vals (by omega) w0 _) ?_
    rintro _ R1 E1 hR1 ⟨fr,frc,rfl,hfr,hsub⟩
    refine WL.subE hsub ?_
    unfold cvV
    refine zR 2 rfl ?_
    refine zE 0 ?_
    refine zR 1 rfl (zN (zU (zT ?_)))
    refine zq4 (hR1) ?_
    exact⟨fr,frc,rfl,hfr,qS⟩

set_option maxHeartbeats 2000000 in
theorem ClsF_C {R:Ro} {na la fa:Option Addr} {nc lc fc:Nat} {names:List (List UInt8)} {ms:List LnM} {fs:List FlM} (hna:K.RS R 1 encT na names) (hla:K.RS R 5 encLn la ms) (hfa:K.RS R 8 encFl fa fs) (hokn:∀ m∈ms,OkLn R m) (hof:∀ m∈fs,OkFl R m) (hnl:∀ x∈names,x.length≤9223372036854775807) (hck:chkNet names (ms.map (·.L)) (fs.map (·.f))=0) {da:Option Addr} {dc:Nat} {ds:List Sl} (hd:RS R 1 encS da ds) (hrd:∀ r∈ds,RS R 1 encI r.a r.xs) (hsh:ShD ds ms) (hdb:∀ r∈ds,∀ x∈r.xs,0≤x∧x≤400) (hl4:∀ m∈fs,m.f.route.length≤4∧m.f.route.length≤m.c1∧validB m.f.cv=true) (hro:∀ m∈fs,∀ l∈m.f.route,0≤l∧l<ds.length) (hcl:∀ m∈fs,∀ r∈ds,0≤m.f.cls∧m.f.cls<r.xs.length) {b4 b5 b6:Nat} {line:Int} (h4:R b4=some [.slice na names.length nc,.slice la ms.length lc,.slice fa fs.length fc]) (h5:R b5=some [.slice da ds.length dc]) (h6:R b6=some [.int .i64 line]) (hff:∀ m∈fs,finB m.f.cv=true) {acc:Cv} {aa:Option Addr} {ac:Nat} (hva:validB acc=true) (haa:RS R 1 encI aa acc.vals) {u:Nat} (huf:u<fs.length) (hho:0≤hopL line (nth fs u).f.route) (w0:World) (E:List Ent):K.Fn Tryz.prog 208 [.agg #[.slice aa acc.vals.length ac,.int .i64 acc.per,.int .i64 acc.inc],.int .i64 (u:Int),.pointer (some ⟨b4,0,none⟩),.pointer (some ⟨b5,0,none⟩),.pointer (some ⟨b6,0,none⟩)] w0 R E (fun r R' E'=>∃ (f:Option Addr) (fc:Nat),r=cvV f fc (clsStep fs ds line acc u)∧RS R' 1 encI f (clsStep fs ds line acc u).1.vals∧E.Sublist E'):=by
 obtain⟨hhl,hhe⟩:=hopL_lt hho
 have hm4:=hl4 _ (nth_mem huf)
 have hbs:=befS_bound (h:=(hopL line (nth fs u).f.route).toNat) (hro _ (nth_mem huf)) hdb (hcl _ (nth_mem huf)) (by omega)
 refine fE 31 Tryz.func208 ?_
 refine zQ (zG ?_)
 refine zO fun b5=>?_
 refine zA fun b7=>?_
 refine zR 1 rfl (zN (zU (zQ ?_)))
 refine W.regionH _ (ES:=[]) mixed ?_
 refine tD 0 (r:=by exact Rd.ro h4) (k:=?_)
 refine tD 1 (r:=by exact Rd.ro h5) (k:=?_)
 refine tP 2 ?_
 refine tD 3 (r:=by exact Rd.ro h4) (k:=?_)
 refine tP 4 ?_
 refine tD 5 (r:=by exact Rd.ro h6) (k:=?_)
 refine WA.br2 (i:=6) (j:=11) qK ?_ ?_
 ·
  refine WS.callV (v:=.int .i64 (hopL line (nth fs u).f.route)) rfl en65 rfl rfl qD (CallOp.mk' rfl rfl rfl rfl) (fun _=>rfl) (fun hg=>NHop_V (line:=line) hfa hof huf) qS qR ?_
  refine WA.br2 (i:=7) (j:=11) qK ?_ ?_
  ·
   refine WS.callG rfl en150 rfl (by first|rfl|decide) rfl (by decide) (CallOp.mkT rfl rfl rfl rfl) ((by rw[← hhe];exact LAt_C (nc:=nc) (lc:=lc) (fc:=fc) hna hla hfa hokn hof hnl hck hd hrd hsh hdb hl4 hro hcl huf hhl w0 _)) ?_
   rintro _ R1 E1 hR1 ⟨fr,frc,rfl,hfr,hsub1⟩
   refine⟨hR1,List.Sublist.trans qS hsub1,?_⟩
   refine WA.subE hsub1 ?_
   rw[show aheadC (nth fs u).f.cv (befS ds (nth fs u).f.cls (List.take (hopL line (nth fs u).f.route).toNat (nth fs u).f.route)).toNat=atC fs ds line u from rfl] at hfr ⊢
   have haa:=haa.mono hR1
   unfold cvV
   refine tP 8 ?_
   refine tP 9 ?_
   refine tP 10 ?_
   refine WA.eff 11 rfl qK rfl rfl qD (Ef.alloc tab_ok rfl rfl (fun b9=>?_))
   refine⟨qR,qS,?_⟩
   refine zCE 12 0 ?_
   refine tP 13 ?_
   refine WA.done qK ?_
   refine zU (zQ (zQ (zG (zR 2 rfl (zN (zU ?_))))))
   refine cN rfl ?_ ?_<;>intro hc0
   ·
    have hst:clsStep fs ds line acc u=(zcv,(atC fs ds line u).2):=if_pos hc0
    refine zQ (zG ?_)
    refine yW [] ?_
    refine zR 1 rfl ?_
    refine zE 1 ?_
    refine zR 1 rfl (zN (zU (zT (wt ?_))))
    refine zq4 (by first|exact hR1|exact hR1.trans hR2) ?_
    exact⟨none,0,by rw[hst];rfl,by rw[hst];exact rs_nil,qS⟩
   ·
    have he0:(atC fs ds line u).2=0:=by omega
    have hst:clsStep fs ds line acc u=sumC acc (atC fs ds line u).1:=if_neg (by omega)
    have hvt:validB (atC fs ds line u).1=true:=by
     rcases ahead_res hm4.2.2 (hff _ (nth_mem huf)) (d:=(befS ds (nth fs u).f.cls ((nth fs u).f.route.take (hopL line (nth fs u).f.route).toNat)).toNat) (by omega) with h|⟨c,h1,h2,_,_⟩
     ·have h:atC fs ds line u=(zcv,3):=h
      rw[h] at he0;exact absurd he0 (by decide)
     ·have h1:atC fs ds line u=(c,0):=h1
      rw[h1];exact h2.valid
    refine zK (zU (zQ (zG ?_)))
    refine yB 2 ?_
    refine yB 0 ?_
    refine WL.call en120 rfl rfl qD (CallOp.mkT rfl rfl rfl rfl) (PSum_C hva haa hvt hfr w0 _) ?_
    rintro _ R2 E2 hR2 ⟨f2,fc2,rfl,hf2,hsub2⟩
    refine WL.subE hsub2 ?_
    rw[← hst] at hf2 ⊢
    unfold cvV
    refine zR 2 rfl ?_
    refine zE 1 ?_
    refine zR 1 rfl (zN (zU (zT ?_)))
    refine zq4 (by first|exact hR1|exact hR1.trans hR2) ?_
    exact⟨f2,fc2,rfl,hf2,qS⟩
  ·
   refine WS.eff rfl rfl rfl qD (Ef.alloc tab_ok rfl rfl (fun b9=>?_))
   refine⟨qR,qS,?_⟩
   refine WA.callG 7 rfl (by kernel_rfl) en150 rfl (by first|rfl|decide) rfl (by decide) (CallOp.mkT rfl rfl rfl rfl) ((by rw[← hhe];exact LAt_C (nc:=nc) (lc:=lc) (fc:=fc) hna hla hfa hokn hof hnl hck hd hrd hsh hdb hl4 hro hcl huf hhl w0 _)) ?_
   rintro _ R1 E1 hR1 ⟨fr,frc,rfl,hfr,hsub1⟩
   refine⟨hR1,List.Sublist.trans qS hsub1,?_⟩
   refine WA.subE hsub1 ?_
   rw[show aheadC (nth fs u).f.cv (befS ds (nth fs u).f.cls (List.take (hopL line (nth fs u).f.route).toNat (nth fs u).f.route)).toNat=atC fs ds line u from rfl] at hfr ⊢
   have haa:=haa.mono hR1
   unfold cvV
   refine tP 8 ?_
   refine tP 9 ?_
   refine tP 10 ?_
   refine zCE 12 0 ?_
   refine tP 13 ?_
   refine WA.done qK ?_
   refine zU (zQ (zQ (zG (zR 2 rfl (zN (zU ?_))))))
   refine cN rfl ?_ ?_<;>intro hc1
   ·
    have hst:clsStep fs ds line acc u=(zcv,(atC fs ds line u).2):=if_pos hc1
    refine zQ (zG ?_)
    refine yW [] ?_
    refine zR 1 rfl ?_
    refine zE 1 ?_
    refine zR 1 rfl (zN (zU (zT (wt ?_))))
    refine zq4 (by first|exact hR1|exact hR1.trans hR2) ?_
    exact⟨none,0,by rw[hst];rfl,by rw[hst];exact rs_nil,qS⟩
   ·
    have he0:(atC fs ds line u).2=0:=by omega
    have hst:clsStep fs ds line acc u=sumC acc (atC fs ds line u).1:=if_neg (by omega)
    have hvt:validB (atC fs ds line u).1=true:=by
     rcases ahead_res hm4.2.2 (hff _ (nth_mem huf)) (d:=(befS ds (nth fs u).f.cls ((nth fs u).f.route.take (hopL line (nth fs u).f.route).toNat)).toNat) (by omega) with h|⟨c,h1,h2,_,_⟩
     ·have h:atC fs ds line u=(zcv,3):=h
      rw[h] at he0;exact absurd he0 (by decide)
     ·have h1:atC fs ds line u=(c,0):=h1
      rw[h1];exact h2.valid
    refine zK (zU (zQ (zG ?_)))
    refine yB 2 ?_
    refine yB 0 ?_
    refine WL.call en120 rfl rfl qD (CallOp.mkT rfl rfl rfl rfl) (PSum_C hva haa hvt hfr w0 _) ?_
    rintro _ R2 E2 hR2 ⟨f2,fc2,rfl,hf2,hsub2⟩
    refine WL.subE hsub2 ?_
    rw[← hst] at hf2 ⊢
    unfold cvV
    refine zR 2 rfl ?_
    refine zE 1 ?_
    refine zR 1 rfl (zN (zU (zT ?_)))
    refine zq4 (by first|exact hR1|exact hR1.trans hR2) ?_
    exact⟨f2,fc2,rfl,hf2,qS⟩
 ·
  refine WS.eff rfl rfl rfl qD (Ef.alloc tab_ok rfl rfl (fun b9=>?_))
  refine⟨qR,qS,?_⟩
  refine WA.callV 6 (v:=.int .i64 (hopL line (nth fs u).f.route)) rfl qK en65 rfl rfl qD (CallOp.mk' rfl rfl rfl rfl) (fun _=>rfl) (fun hg=>NHop_V (line:=line) hfa hof huf) qS qR ?_
  refine WA.callG 7 rfl (by kernel_rfl) en150 rfl (by first|rfl|decide) rfl (by decide) (CallOp.mkT rfl rfl rfl rfl) ((by rw[← hhe];exact LAt_C (nc:=nc) (lc:=lc) (fc:=fc) hna hla hfa hokn hof hnl hck hd hrd hsh hdb hl4 hro hcl huf hhl w0 _)) ?_
  rintro _ R1 E1 hR1 ⟨fr,frc,rfl,hfr,hsub1⟩
  refine⟨hR1,List.Sublist.trans qS hsub1,?_⟩
  refine WA.subE hsub1 ?_
  rw[show aheadC (nth fs u).f.cv (befS ds (nth fs u).f.cls (List.take (hopL line (nth fs u).f.route).toNat (nth fs u).f.route)).toNat=atC fs ds line u from rfl] at hfr ⊢
  have haa:=haa.mono hR1
  unfold cvV
  refine tP 8 ?_
  refine tP 9 ?_
  refine tP 10 ?_
  refine zCE 12 0 ?_
  refine tP 13 ?_
  refine WA.done qK ?_
  refine zU (zQ (zQ (zG (zR 2 rfl (zN (zU ?_))))))
  refine cN rfl ?_ ?_<;>intro hc2
  ·
   have hst:clsStep fs ds line acc u=(zcv,(atC fs ds line u).2):=if_pos hc2
   refine zQ (zG ?_)
   refine yW [] ?_
   refine zR 1 rfl ?_
   refine zE 1 ?_
   refine zR 1 rfl (zN (zU (zT (wt ?_))))
   refine zq4 (by first|exact hR1|exact hR1.trans hR2) ?_
   exact⟨none,0,by rw[hst];rfl,by rw[hst];exact rs_nil,qS⟩
  ·
   have he0:(atC fs ds line u).2=0:=by omega
   have hst:clsStep fs ds line acc u=sumC acc (atC fs ds line u).1:=if_neg (by omega)
   have hvt:validB (atC fs ds line u).1=true:=by
    rcases ahead_res hm4.2.2 (hff _ (nth_mem huf)) (d:=(befS ds (nth fs u).f.cls ((nth fs u).f.route.take (hopL line (nth fs u).f.route).toNat)).toNat) (by omega) with h|⟨c,h1,h2,_,_⟩
    ·have h:atC fs ds line u=(zcv,3):=h
     rw[h] at he0;exact absurd he0 (by decide)
    ·have h1:atC fs ds line u=(c,0):=h1
     rw[h1];exact h2.valid
   refine zK (zU (zQ (zG ?_)))
   refine yB 2 ?_
   refine yB 0 ?_
   refine WL.call en120 rfl rfl qD (CallOp.mkT rfl rfl rfl rfl) (PSum_C hva haa hvt hfr w0 _) ?_
   rintro _ R2 E2 hR2 ⟨f2,fc2,rfl,hf2,hsub2⟩
   refine WL.subE hsub2 ?_
   rw[← hst] at hf2 ⊢
   unfold cvV
   refine zR 2 rfl ?_
   refine zE 1 ?_
   refine zR 1 rfl (zN (zU (zT ?_)))
   refine zq4 (by first|exact hR1|exact hR1.trans hR2) ?_
   exact⟨f2,fc2,rfl,hf2,qS⟩

set_option maxHeartbeats 2000000 in
theorem Fold_C {R:Ro} {ua:Option Addr} {uc:Nat} {us:List Int} (hu:RS R 1 encI ua us) {g:FuncId} {fi ca:Array Value} {G:Cv→Int→Cv × Int} (heg:Enters Tryz.prog g) (hF:∀ {R1:Ro},RLe R R1→∀ (acc:Cv) (aa:Option Addr) (ac:Nat),validB acc=true→RS R1 1 encI aa acc.vals→∀ x∈us,∀ (w0:World) (E:List Ent),K.Fn Tryz.prog g (fi.toList++[.agg #[.slice aa acc.vals.length ac,.int .i64 acc.per,.int .i64 acc.inc],.int .i64 x]++ca.toList) w0 R1 E (fun r R' E'=>∃ (f:Option Addr) (fc:Nat),r=cvV f fc (G acc x)∧RS R' 1 encI f (G acc x).1.vals∧E.Sublist E')) (hG:∀ acc x,validB acc=true→x∈us→(G acc x).2=0→validB (G acc x).1=true) {ac0:Cv} {aa:Option Addr} {ac:Nat} (hva:validB ac0=true) (haa:RS R 1 encI aa ac0.vals) (w0:World) (E:List Ent):K.Fn Tryz.prog 207 [.slice ua us.length uc,.agg #[.slice aa ac0.vals.length ac,.int .i64 ac0.per,.int .i64 ac0.inc],.func (.func g) fi ca] w0 R E (fun r R' E'=>∃ (f:Option Addr) (fc:Nat),r=cvV f fc (foldGo G ac0 us)∧RS R' 1 encI f (foldGo G ac0 us).1.vals∧E.Sublist E'):=by
 have hul:=hu.len
 refine fE 33 Tryz.func207 ?_
 refine zQ (zG ?_)
 refine zO fun b4=>?_
 refine zA fun b6=>?_
 refine zR 1 rfl (zN (zU (zQ (zQ (zG (zR 3 rfl (zN (zU (zB ?_)))))))))
 refine W.loopR (β:=Nat × Cv × Option Addr × Nat × Ro) (fun (k,acc,ak,ck,Rk)=>k≤us.length∧RLe R Rk∧validB acc=true∧RS Rk 1 encI ak acc.vals∧foldGo G acc (us.drop k)=foldGo G ac0 us) (fun (k,acc,ak,ck,Rk)=>[(15,true,.int .i64 (k:Int))]) [2,4,6,13,14] [_,_,_,_,_] [] _ rfl (fun (k,acc,ak,ck,Rk)=>[(1,.blk b4 [.slice ak acc.vals.length ck,.int .i64 acc.per,.int .i64 acc.inc])]) (fun (k,acc,ak,ck,Rk)=>Rk) (fun (k,acc,ak,ck,Rk)=>us.length - k) ((0,ac0,aa,ac,R)) (⟨Nat.zero_le _,RLe.refl _,hva,haa,rfl⟩) ⟨rfl,rfl,rfl,rfl,rfl,rfl,rfl⟩ (RLe.refl _) qS ?_
 intro zz hst
 obtain⟨k,acc,ak,ck,Rk⟩:=zz
 obtain⟨hk,hRk,hvk,hak,hfo⟩:=hst
 have hu:=hu.mono hRk
 refine zQ (zG (zR 1 rfl (zN (zU (zQ ?_)))))
 refine cD rfl ?_ ?_<;>intro hc0
 ·
  have hkl:k<us.length:=by omega
  have hux:nth us k∈us:=nth_mem hkl
  rw[drop_nth hkl] at hfo
  refine zK (zU (zQ (zB (zQ (zG ?_)))))
  refine yI ?_
  refine yD (r:=by((apply RS.rdD;assumption;((try dsimp only)<;>omega)))) (k:=?_)
  refine zR 1 rfl (zN (zU (zQ (zG (zR 1 rfl ?_)))))
  refine yB 1 ?_
  refine zR 1 rfl ?_
  refine WL.call heg rfl rfl qD (CallOp.mkT rfl rfl rfl rfl) (hF hRk acc ak ck hvk hak _ (nth_mem hkl) w0 _) ?_
  rintro _ R1 E1 hR1 ⟨f1,fc1,rfl,hf1,hsub1⟩
  refine WL.subE hsub1 ?_
  unfold cvV
  refine zR 3 rfl ?_
  refine zA fun b10=>?_
  refine zE 0 ?_
  refine zR 1 rfl (zN (zU (zQ (zQ (zG (zR 2 rfl (zN (zU ?_))))))))
  refine cN rfl ?_ ?_<;>intro hc1
  ·
   have hz:foldGo G ac0 us=(zcv,(G acc (nth us k)).2):=by rw[← hfo];exact if_pos hc1
   refine zQ (zG ?_)
   refine zA fun b12=>?_
   refine zN (zU (zQ (zG ?_)))
   refine yB 0 ?_
   refine zR 1 rfl ?_
   refine zE 2 ?_
   refine zR 1 rfl (zN (zU (zT (wt (wb (wt (wt (wb (wt ?_)))))))))
   refine zq4 (by first|exact hRk.trans hR1|exact hRk) ?_
   exact⟨none,0,by rw[hz];rfl,by rw[hz];exact rs_nil,qS⟩
  ·
   have he0:(G acc (nth us k)).2=0:=by omega
   have hz:foldGo G (G acc (nth us k)).1 (us.drop (k+1))=foldGo G ac0 us:=by rw[← hfo];exact(if_neg (by omega)).symm
   have hv1:=hG acc _ hvk hux he0
   refine zK (zU (zG ?_))
   refine yB 0 ?_
   refine zE 2 ?_
   refine zN (zL (zU (zG ?_)))
   refine yA ?_
   refine zR 1 rfl (zN ?_)
   refine WE.again ((k+1,(G acc (nth us k)).1,f1,fc1,R1)) (⟨by(try dsimp only);omega,hRk.trans hR1,hv1,hf1,hz⟩) (by(try dsimp only);omega) ⟨rfl,rfl,rfl,rfl,rfl,rfl,rfl⟩ (RLe.refl _) qS
 ·
  obtain rfl:k=us.length:=by omega
  rw[List.drop_length] at hfo
  refine zX ?_
  refine wx (wx (zY (zU (zQ (zG ?_)))))
  refine yB 1 ?_
  refine zE 0 ?_
  refine zR 1 rfl (zN (zU (zT ?_)))
  refine zq4 (by first|exact hRk.trans hR1|exact hRk) ?_
  exact⟨ak,ck,by rw[← hfo];rfl,by rw[← hfo];exact hak,qS⟩

set_option maxHeartbeats 2000000 in
theorem Class_C {R:Ro} {na la fa:Option Addr} {nc lc fc:Nat} {names:List (List UInt8)} {ms:List LnM} {fs:List FlM} (hna:K.RS R 1 encT na names) (hla:K.RS R 5 encLn la ms) (hfa:K.RS R 8 encFl fa fs) (hokn:∀ m∈ms,OkLn R m) (hof:∀ m∈fs,OkFl R m) (hnl:∀ x∈names,x.length≤9223372036854775807) (hck:chkNet names (ms.map (·.L)) (fs.map (·.f))=0) {da:Option Addr} {dc:Nat} {ds:List Sl} (hd:RS R 1 encS da ds) (hrd:∀ r∈ds,RS R 1 encI r.a r.xs) (hsh:ShD ds ms) (hdb:∀ r∈ds,∀ x∈r.xs,0≤x∧x≤400) (hl4:∀ m∈fs,m.f.route.length≤4∧m.f.route.length≤m.c1∧validB m.f.cv=true) (hro:∀ m∈fs,∀ l∈m.f.route,0≤l∧l<ds.length) (hcl:∀ m∈fs,∀ r∈ds,0≤m.f.cls∧m.f.cls<r.xs.length) (hff:∀ m∈fs,finB m.f.cv=true) (h8:fs.length≤100) {l c:Nat} (hl:l<ms.length) (hc:(c:Int)<(nth ms l).L.n) (w0:World) (E:List Ent):K.Fn Tryz.prog 177 [.agg #[.slice na names.length nc,.slice la ms.length lc,.slice fa fs.length fc],.slice da ds.length dc,.int .i64 (l:Int),.int .i64 (c:Int)] w0 R E (fun r R' E'=>∃ (f:Option Addr) (fc:Nat),r=cvV f fc (clsGo fs ds (l:Int) zeroC (membL fs (c:Int) (usersL fs (l:Int) fs.length)))∧RS R' 1 encI f (clsGo fs ds (l:Int) zeroC (membL fs (c:Int) (usersL fs (l:Int) fs.length))).1.vals∧E.Sublist E'):=by
 have hlm:=hla.len
 refine fE 51 Tryz.func177 ?_
 refine zQ (zG ?_)
 refine zO fun b4=>?_
 refine zO fun b5=>?_
 refine zO fun b6=>?_
 refine zA fun b8=>?_
 refine zR 1 rfl (zN (zU (zQ (zQ (zG ?_)))))
 refine yB 3 ?_
 refine yB 2 ?_
 refine WG.callV en73 rfl rfl qD (CallOp.mk' rfl rfl rfl rfl) (fun _=>rfl) (fun hg=>Shape_V (nc:=nc) (lc:=lc) (fc:=fc) hna hla hfa hokn hof hnl hck hd hrd hsh (fun r hr x hx=>by have:=hdb r hr x hx;omega)) ?_
 refine zR 1 rfl (zN (zU ?_))
 refine cC rfl ?_ ?_<;>intro hc0
 ·try simp only[zk] at hc0
  (simp at hc0;done)
 ·try simp only[zk] at hc0
  refine zK (zU (zQ (zQ (zG ?_))))
  refine yB 1 ?_
  refine zR 2 rfl ?_
  refine yG (Rd.blkC 1 rfl) ?_
  refine yP ?_
  refine yG (Rd.addC (Rd.blkC 3 rfl) _) ?_
  refine yP ?_
  refine yP ?_
  refine yO ?_
  refine zR 1 rfl ?_
  refine yP ?_
  refine yP ?_
  refine yO ?_
  refine zR 1 rfl ?_
  refine yP ?_
  refine yP ?_
  refine yG (Rd.addC (Rd.blkC 3 rfl) _) ?_
  refine yG (Rd.blkC 1 rfl) ?_
  refine gI ?_
  refine yP ?_
  refine yJ (r:=by apply Rd.addC;((apply RS.rdC;assumption))) (k:=?_)
  refine yP ?_
  refine yO ?_
  refine zN (zU ?_)
  refine cC rfl ?_ ?_<;>intro hc1
  ·try simp only[zk] at hc1
   exfalso;omega
  ·try simp only[zk] at hc1
   refine zK (zU (zQ (zG ?_)))
   refine WL.ef rfl rfl qD (Ef.buildSliceD (enc:=encI) (parts:=[.const (.int .i64 0)]) [(0:Int)] tab_ok rfl rfl rfl rfl rfl rfl rfl rfl qD qD (fun a40=>?_))
   refine yW [(0,.tmp 40),(1,.const (.int .i64 1))] ?_
   refine zA fun b10=>?_
   refine zE 0 ?_
   refine zN (zU ?_)
   refine W.freeze (enc:=encI) (xs:=[(0:Int)]) 1 rfl ?_
   intro R1 hR1 hz0
   refine W.freezeBlk 2 rfl ?_
   intro R2 hR2 h6
   refine W.freezeBlk 2 rfl ?_
   intro R3 hR3 h5
   refine W.freezeBlk 2 rfl ?_
   intro R4 hR4 h4
   have h6:=hR4 _ _ (hR3 _ _ h6)
   have h5:=hR4 _ _ h5
   have hR14:=((hR1.trans hR2).trans hR3).trans hR4
   have hz0:=hz0.mono ((hR2.trans hR3).trans hR4)
   have hna:=hna.mono hR14
   have hla:=hla.mono hR14
   have hfa:=hfa.mono hR14
   have hd:=hd.mono hR14
   have hokn:=fun m hm=>(hokn m hm).mono hR14
   have hof:=fun x hx=>(hof x hx).mono hR14
   have hrd:=fun x hx=>(hrd x hx).mono hR14
   have hF5:∀ {R5:Ro},RLe R4 R5→∀ {R1:Ro},RLe R5 R1→∀ (acc:Cv) (aa:Option Addr) (ac:Nat),validB acc=true→RS R1 1 encI aa acc.vals→∀ x∈(membL fs (c:Int) (usersL fs (l:Int) fs.length)),∀ (w0:World) (E:List Ent),K.Fn Tryz.prog 208 ((#[]:Array Value).toList++[.agg #[.slice aa acc.vals.length ac,.int .i64 acc.per,.int .i64 acc.inc],.int .i64 x]++(#[.pointer (some ⟨b4,0,none⟩),.pointer (some ⟨b5,0,none⟩),.pointer (some ⟨b6,0,none⟩)]:Array Value).toList) w0 R1 E (fun r R' E'=>∃ (f:Option Addr) (fc:Nat),r=cvV f fc (clsStep fs ds (l:Int) acc x.toNat)∧RS R' 1 encI f (clsStep fs ds (l:Int) acc x.toNat).1.vals∧E.Sublist E'):=fun {R5} k5 {R1} k1 acc aa ac hva haa x hx w0 E=>by
    have kk:=k5.trans k1
    obtain⟨u,rfl,hu,hho⟩:=membL_mem hx
    exact ClsF_C (nc:=nc) (lc:=lc) (fc:=fc) (hna.mono kk) (hla.mono kk) (hfa.mono kk) (fun m hm=>(hokn m hm).mono kk) (fun x hx=>(hof x hx).mono kk) hnl hck (hd.mono kk) (fun x hx=>(hrd x hx).mono kk) hsh hdb hl4 hro hcl (kk _ _ h4) (kk _ _ h5) (kk _ _ h6) hff hva haa hu hho w0 E
   have hG5:∀ (acc:Cv) (x:Int),validB acc=true→x∈(membL fs (c:Int) (usersL fs (l:Int) fs.length))→(clsStep fs ds (l:Int) acc x.toNat).2=0→validB (clsStep fs ds (l:Int) acc x.toNat).1=true:=fun acc x hva hx he=>by
    obtain⟨u,rfl,hu,hho⟩:=membL_mem hx
    have h4u:=hl4 _ (nth_mem hu)
    exact clsStep_valid (u:=u) hva h4u.2.2 (hff _ (nth_mem hu)) (by have:=befS_bound (h:=(hopL (l:Int) (nth fs u).f.route).toNat) (hro _ (nth_mem hu)) hdb (hcl _ (nth_mem hu)) qO;omega) he
   refine zQ ?_
   refine W.regionH _ (ES:=[.blk b10 [.slice (some ⟨a40,0,none⟩) 1 1,.int .i64 1,.int .i64 0]]) mixed ?_
   refine tD 0 (r:=by exact Rd.ro h4) (k:=?_)
   refine tD 1 (r:=by exact Rd.ro h6) (k:=?_)
   refine tP 2 ?_
   refine tL 4 (Rd.blk 0 rfl) ?_
   refine WA.take 5 rfl qK qK qK rfl rfl qD (Yl.makeFunc (fi:=[]) (ca:=[.tmp 4,.tmp 5,.tmp 6]) rfl rfl rfl (fun _=>rfl)) qS qR ?_
   refine WA.callG 3 rfl qK en50 rfl (by first|rfl|decide) rfl qD (CallOp.mkT rfl rfl rfl rfl) (Memb_C hfa hof h8 w0 _) ?_
   rintro _ R5 E5 hR5 ⟨ua,uc,rfl,hua,hsub5⟩
   have hR25:=(((hR1.trans hR2).trans hR3).trans hR4).trans hR5
   refine⟨hR5,List.Sublist.trans qS hsub5,?_⟩
   refine WA.subE hsub5 ?_
   have hz0:=hz0.mono hR5
   refine WA.callG 6 rfl qK en207 rfl (by first|rfl|decide) rfl qD (CallOp.mkT rfl rfl rfl rfl) ((Fold_C (ac0:=zeroC) (G:=fun a u=>clsStep fs ds (l:Int) a u.toNat) hua en208 (hF5 hR5) hG5 qK hz0 w0 _)) ?_
   rintro _ R6 E6 hR6 ⟨f6,fc6,rfl,hf6,hsub6⟩
   have hR56:=hR5.trans hR6
   refine⟨hR56,List.Sublist.trans qS hsub6,?_⟩
   refine WA.subE hsub6 ?_
   rw[fold_cls] at hf6 ⊢
   unfold cvV
   refine tP 7 ?_
   refine tP 8 ?_
   refine zCE 9 1 ?_
   refine tP 10 ?_
   refine WA.done qK ?_
   refine zU (zT ?_)
   refine zq4 (by first|exact(((hR1.trans hR2).trans hR3).trans hR4).trans hR56) ?_
   exact⟨f6,fc6,rfl,hf6,qS⟩

set_option maxHeartbeats 2000000 in
theorem Contr1_C {R:Ro} {na la fa:Option Addr} {nc lc fc:Nat} {names:List (List UInt8)} {ms:List LnM} {fs:List FlM} (hna:K.RS R 1 encT na names) (hla:K.RS R 5 encLn la ms) (hfa:K.RS R 8 encFl fa fs) (hokn:∀ m∈ms,OkLn R m) (hof:∀ m∈fs,OkFl R m) (hnl:∀ x∈names,x.length≤9223372036854775807) (hck:chkNet names (ms.map (·.L)) (fs.map (·.f))=0) {da:Option Addr} {dc:Nat} {ds:List Sl} (hd:RS R 1 encS da ds) (hrd:∀ r∈ds,RS R 1 encI r.a r.xs) (hsh:ShD ds ms) (hdb:∀ r∈ds,∀ x∈r.xs,0≤x∧x≤400) (hl4:∀ m∈fs,m.f.route.length≤4∧m.f.route.length≤m.c1∧validB m.f.cv=true) (hro:∀ m∈fs,∀ l∈m.f.route,0≤l∧l<ds.length) (hcl:∀ m∈fs,∀ r∈ds,0≤m.f.cls∧m.f.cls<r.xs.length) (hff:∀ m∈fs,finB m.f.cv=true) (h8:fs.length≤100) {l:Nat} (hl:l<ms.length) (hn1:(nth ms l).L.n=1) (w0:World) (E:List Ent):K.Fn Tryz.prog 131 [.agg #[.slice na names.length nc,.slice la ms.length lc,.slice fa fs.length fc],.slice da ds.length dc,.int .i64 (l:Int)] w0 R E (fun v R' E'=>(((clsGo fs ds (l:Int) zeroC (membL fs ((0:Nat):Int) (usersL fs (l:Int) fs.length)))).2≠0→v=.tuple #[.slice none 0 0,.int .i64 ((clsGo fs ds (l:Int) zeroC (membL fs ((0:Nat):Int) (usersL fs (l:Int) fs.length)))).2])∧(((clsGo fs ds (l:Int) zeroC (membL fs ((0:Nat):Int) (usersL fs (l:Int) fs.length)))).2=0→∃ (a:Option Addr) (k:Nat) (y:CvS),1≤k∧v=.tuple #[.slice a [y].length k,.int .i64 0]∧RS R' 3 encC a [y]∧RS R' 1 encI y.a y.cv.vals∧y.cv=((clsGo fs ds (l:Int) zeroC (membL fs ((0:Nat):Int) (usersL fs (l:Int) fs.length)))).1)∧E.Sublist E'):=by
 have hlm:=hla.len
 refine fE 52 Tryz.func131 ?_
 refine zQ (zG ?_)
 refine zO fun b3=>?_
 refine zR 2 rfl (zN (zU (zQ (zQ (zG ?_)))))
 refine yB 0 ?_
 refine zR 1 rfl ?_
 refine WG.callV en73 rfl rfl qD (CallOp.mk' rfl rfl rfl rfl) (fun _=>rfl) (fun hg=>Shape_V (nc:=nc) (lc:=lc) (fc:=fc) hna hla hfa hokn hof hnl hck hd hrd hsh (fun r hr x hx=>by have:=hdb r hr x hx;omega)) ?_
 refine zR 1 rfl (zN (zU ?_))
 refine cC rfl ?_ ?_<;>intro hc0
 ·try simp only[zk] at hc0
  (simp at hc0;done)
 ·try simp only[zk] at hc0
  refine zK (zU (zQ (zQ (zG (zR 3 rfl ?_)))))
  refine yP ?_
  refine yP ?_
  refine yG (Rd.addC (Rd.blkC 0 rfl) _) ?_
  refine yP ?_
  refine yP ?_
  refine yO ?_
  refine zN (zU ?_)
  refine cC rfl ?_ ?_<;>intro hc1
  ·try simp only[zk] at hc1
   exfalso;omega
  ·try simp only[zk] at hc1
   refine zK (zU (zQ (zG (zR 1 rfl ?_))))
   refine yM 0 ?_
   refine zR 1 rfl ?_
   refine yI ?_
   refine zR 1 rfl ?_
   refine yD (r:=by apply Rd.add;((apply RS.rdD;assumption;((try dsimp only)<;>omega)))) (k:=?_)
   rw[hn1]
   refine WL.ef rfl rfl qD (Ef.makeSliceD (enc:=encC) (⟨none,0,zcv⟩:CvS) tab_ok rfl rfl rfl rfl rfl rfl qX qX qX qX qD rfl rfl (fun a30=>?_))
   refine zR 1 rfl (zN (zU (zQ (zQ (zG (zR 3 rfl (zN (zU (zB ?_)))))))))
   refine W.loopR (β:=Nat × CvS × Ro) (fun (i,y,Rk)=>i≤1∧RLe R Rk∧(i=1→y.cv=((clsGo fs ds (l:Int) zeroC (membL fs ((0:Nat):Int) (usersL fs (l:Int) fs.length)))).1∧((clsGo fs ds (l:Int) zeroC (membL fs ((0:Nat):Int) (usersL fs (l:Int) fs.length)))).2=0∧RS Rk 1 encI y.a y.cv.vals)) (fun (i,y,Rk)=>[(33,true,.int .i64 (i:Int))]) [1,2,3,8,32] [_,_,_,_,_] [] _ rfl (fun (i,y,Rk)=>[(0,.sl 37 3 (some ⟨a30,0,none⟩) 1 ([y].map encC))]) (fun (i,y,Rk)=>Rk) (fun (i,y,Rk)=>1 - i) ((0,⟨none,0,zcv⟩,R)) (⟨by omega,RLe.refl _,fun h=>absurd h qD⟩) ⟨rfl,rfl,rfl,rfl,rfl,rfl,rfl⟩ (RLe.refl _) qS ?_
   intro zz hst
   obtain⟨i,y,Rk⟩:=zz
   obtain⟨hi,hRk,hy⟩:=hst
   refine zQ (zG (zR 1 rfl (zN (zU (zQ ?_)))))
   refine cD rfl ?_ ?_<;>intro hc2
   ·
    obtain rfl:i=0:=by omega
    refine zK (zU (zQ (zB (zQ (zG (zR 2 rfl (zN (zU (zQ (zG (zR 1 rfl (zN (zU (zQ (zG (zR 2 rfl ?_))))))))))))))))
    refine yB 1 ?_
    refine zR 3 rfl ?_
    refine WL.call en177 rfl rfl qD (CallOp.mkT rfl rfl rfl rfl) (Class_C (nc:=nc) (lc:=lc) (fc:=fc) (c:=0) (hna.mono hRk) (hla.mono hRk) (hfa.mono hRk) (fun m hm=>(hokn m hm).mono hRk) (fun x hx=>(hof x hx).mono hRk) hnl hck (hd.mono hRk) (fun x hx=>(hrd x hx).mono hRk) hsh hdb hl4 hro hcl hff h8 hl qO w0 _) ?_
    rintro _ R1 E1 hR1 ⟨f1,fc1,rfl,hf1,hsub1⟩
    refine WL.subE hsub1 ?_
    unfold cvV
    refine zR 3 rfl ?_
    refine yI ?_
    refine WL.efN rfl rfl (Ef.storeD (enc:=encC) (xs:=[y]) (⟨f1,fc1,((clsGo fs ds (l:Int) zeroC (membL fs ((0:Nat):Int) (usersL fs (l:Int) fs.length)))).1⟩:CvS) 0 tab_ok rfl rfl rfl rfl rfl (by simp) rfl rfl rfl rfl ?_)
    refine zR 1 rfl (zN (zU (zQ (zG (zR 2 rfl (zN (zU ?_)))))))
    refine cN rfl ?_ ?_<;>intro hc3
    ·
     have hne:=hc3
     refine zQ (zG (zR 3 rfl (zN (zU (zT (wb (wt (wt (wb (wt ?_))))))))))
     refine zq2 (by first|exact hRk.trans hR2|exact hRk.trans hR1) ?_
     exact⟨fun _=>rfl,fun h=>absurd h hne,qS⟩
    ·
     have he0:((clsGo fs ds (l:Int) zeroC (membL fs ((0:Nat):Int) (usersL fs (l:Int) fs.length)))).2=0:=by omega
     refine zK (zL (zU (zG ?_)))
     refine yA ?_
     refine zR 1 rfl (zN ?_)
     refine WE.again ((1,⟨f1,fc1,((clsGo fs ds (l:Int) zeroC (membL fs ((0:Nat):Int) (usersL fs (l:Int) fs.length)))).1⟩,R1)) (⟨by(try dsimp only);omega,hRk.trans hR1,fun _=>⟨rfl,he0,hf1⟩⟩) (by(try dsimp only);omega) ⟨rfl,rfl,rfl,rfl,rfl,rfl,rfl⟩ (RLe.refl _) qS
   ·
    obtain rfl:i=1:=by omega
    obtain⟨hy1,hy2,hy3⟩:=hy rfl
    refine W.freeze (enc:=encC) (xs:=[y]) 0 rfl ?_
    intro R2 hR2 hqs
    refine zX ?_
    refine wx (wx (zY (zU (zQ (zG (zR 3 rfl (zN (zU (zT ?_)))))))))
    refine zq2 (by first|exact hRk.trans hR2|exact hRk.trans hR1) ?_
    exact⟨fun h=>absurd hy2 h,fun _=>⟨_,_,y,Nat.le_refl _,rfl,hqs,hy3.mono hR2,hy1⟩,qS⟩

set_option maxHeartbeats 2000000 in
theorem Sizes1_C {R:Ro} {na la fa:Option Addr} {nc lc fc:Nat} {names:List (List UInt8)} {ms:List LnM} {fs:List FlM} (hna:K.RS R 1 encT na names) (hla:K.RS R 5 encLn la ms) (hfa:K.RS R 8 encFl fa fs) (hokn:∀ m∈ms,OkLn R m) (hof:∀ m∈fs,OkFl R m) (hnl:∀ x∈names,x.length≤9223372036854775807) (hck:chkNet names (ms.map (·.L)) (fs.map (·.f))=0) (h8:fs.length≤100) {l:Nat} (hl:l<ms.length) (hn1:(nth ms l).L.n=1) (w0:World) (E:List Ent):K.Fn Tryz.prog 89 [.agg #[.slice na names.length nc,.slice la ms.length lc,.slice fa fs.length fc],.int .i64 (l:Int)] w0 R E (fun v R' E'=>∃ (a:Option Addr) (k:Nat),1≤k∧v=.slice a [szL fs (membL fs 0 (usersL fs (l:Int) fs.length))].length k∧RS R' 2 encZ a [szL fs (membL fs 0 (usersL fs (l:Int) fs.length))]∧E.Sublist E'):=by
 have hlm:=hla.len
 have hlf:=hfa.len
 obtain⟨us,hus⟩:∃ us,us=(membL fs 0 (usersL fs (l:Int) fs.length)):=⟨_,rfl⟩
 have hum:∀ x∈us,0≤x∧x<fs.length:=fun x hx=>by
  rw[hus] at hx
  obtain⟨u,rfl,hu,_⟩:=membL_mem hx
  omega
 rw[← hus]
 refine fE 85 Tryz.func89 ?_
 refine zQ (zG ?_)
 refine zO fun b2=>?_
 refine zR 1 rfl (zN (zU (zQ (zQ (zG ?_)))))
 refine yB 0 ?_
 refine WG.callV (v:=.int .i64 0) en22 rfl rfl qD (CallOp.mk' rfl rfl rfl rfl) (fun _=>rfl) (fun hg=>by
  have h:=NCheck_V (nc:=nc) (lc:=lc) (fc:=fc) hna hla hfa hokn hof hnl
  rw[hck] at h
  exact h) ?_
 refine zR 2 rfl ?_
 refine yP ?_
 refine yP ?_
 refine yO ?_
 refine zR 1 rfl ?_
 refine yP ?_
 refine yP ?_
 refine yG (Rd.addC (Rd.blkC 0 rfl) _) ?_
 refine yP ?_
 refine yP ?_
 refine yO ?_
 refine zN (zU ?_)
 refine cC rfl ?_ ?_<;>intro hc0
 ·try simp only[zk] at hc0
  exfalso;simp at hc0;omega
 ·try simp only[zk] at hc0
  refine zK (zU (zQ (zG (zR 1 rfl ?_))))
  refine yM 0 ?_
  refine zR 1 rfl ?_
  refine yI ?_
  refine zR 1 rfl ?_
  refine yD (r:=by apply Rd.add;((apply RS.rdD;assumption;((try dsimp only)<;>omega)))) (k:=?_)
  rw[hn1]
  refine WL.ef rfl rfl qD (Ef.makeSliceD (enc:=encZ) ⟨0,0⟩ tab_ok rfl rfl rfl rfl rfl rfl qX qX qX qX qD rfl rfl (fun a30=>?_))
  refine zR 1 rfl (zN (zU (zQ (zQ (zG (zR 3 rfl (zN (zU (zB ?_)))))))))
  refine W.loopR (β:=Nat × Sz × Ro) (fun (i,y,Rk)=>i≤1∧RLe R Rk∧(i=1→y=szL fs us)) (fun (i,y,Rk)=>[(33,true,.int .i64 (i:Int))]) [1,2,5,32] [_,_,_,_] [] _ rfl (fun (i,y,Rk)=>[(0,.sl 35 2 (some ⟨a30,0,none⟩) 1 ([y].map encZ))]) (fun (i,y,Rk)=>Rk) (fun (i,y,Rk)=>1 - i) ((0,⟨0,0⟩,R)) (⟨by omega,RLe.refl _,fun h=>absurd h qD⟩) ⟨rfl,rfl,rfl,rfl,rfl,rfl⟩ (RLe.refl _) qS ?_
  intro zz hst
  obtain⟨i,y,Rk⟩:=zz
  obtain⟨hi,hRk,hy⟩:=hst
  refine zQ (zG (zR 1 rfl (zN (zU (zQ ?_)))))
  refine cD rfl ?_ ?_<;>intro hc1
  ·
   obtain rfl:i=0:=by omega
   refine zK (zU (zQ (zB (zQ (zG (zR 2 rfl (zN (zU (zQ (zG (zR 2 rfl ?_)))))))))))
   refine yW [(0,.const (.int .i64 1)),(1,.const (.int .i64 1))] ?_
   refine yI ?_
   refine WL.efN rfl rfl (Ef.storeD (enc:=encZ) (xs:=[y]) (⟨1,1⟩:Sz) 0 tab_ok rfl rfl rfl rfl rfl (by simp) rfl rfl rfl rfl ?_)
   refine zN (zU (zQ (zG ?_)))
   refine yB 1 ?_
   refine zR 2 rfl ?_
   refine WL.call en50 rfl rfl qD (CallOp.mkT rfl rfl rfl rfl) (Memb_C (nc:=nc) (lc:=lc) (fc:=fc) (hfa.mono hRk) (fun x hx=>(hof x hx).mono hRk) h8 (line:=(l:Int)) (cls:=0) w0 _) ?_
   rintro _ R1 E1 hR1 ⟨ua,uc,rfl,hua,hsub1⟩
   refine WL.subE hsub1 ?_
   rw[← hus] at hua ⊢
   have hul:=hua.len
   have hR01:=hRk.trans hR1
   refine zR 2 rfl (zN (zU (zB ?_)))
   refine W.loopK (β:=Nat) (fun k=>k≤us.length) (fun k=>[(45,true,.int .i64 (k:Int))]) [1,2,5,6,32,33,43,44] [_,_,_,_,_,_,_,_] [] _ rfl (fun k=>[(0,.sl 35 2 (some ⟨a30,0,none⟩) 1 ([szL fs (us.take k)].map encZ))]) (fun k=>us.length - k) (0) (Nat.zero_le _) ⟨rfl,rfl,rfl,rfl,rfl,rfl,rfl,rfl,rfl,rfl⟩ qS ?_
   intro k hst
   have hk:=hst
   refine zQ (zG (zR 1 rfl (zN (zU (zQ ?_)))))
   refine cD rfl ?_ ?_<;>intro hc2
   ·
    have hkl:k<us.length:=by omega
    have hux:=hum _ (nth_mem hkl)
    have hif:(nth us k).toNat<fs.length:=by omega
    have hfk:=(hfa.mono hR01)
    refine zK (zU (zQ (zB (zQ (zG (zR 1 rfl ?_))))))
    refine yI ?_
    refine yD (r:=by((apply RS.rdD;assumption;((try dsimp only)<;>omega)))) (k:=?_)
    refine zR 2 rfl (zN (zU (zQ (zG (zR 1 rfl ?_)))))
    refine yM 1 ?_
    refine zR 1 rfl ?_
    refine yX ?_
    refine zR 1 rfl ?_
    refine yD (r:=by apply Rd.add;((apply RS.rdD;assumption;((try dsimp only)<;>omega)))) (k:=?_)
    refine zA fun b9=>?_
    refine zE 0 ?_
    refine zN (zU (zQ (zQ (zG (zR 2 rfl (zN (zU ?_)))))))
    refine cE rfl ?_ ?_<;>intro hc3
    ·
     obtain rfl:k=0:=by omega
     have hsz:(⟨(nth fs (nth us 0).toNat).f.lo,(nth fs (nth us 0).toNat).f.hi⟩:Sz)=szL fs (us.take (0+1)):=(szL_one fs hkl).symm
     refine zQ (zG (zR 2 rfl ?_))
     refine yB 0 ?_
     refine yI ?_
     refine WL.efN rfl rfl (Ef.storeD (enc:=encZ) (xs:=[szL fs (us.take 0)]) (⟨(nth fs (nth us 0).toNat).f.lo,(nth fs (nth us 0).toNat).f.hi⟩:Sz) 1 tab_ok rfl rfl rfl rfl rfl (by simp) rfl rfl rfl rfl ?_)
     refine zN (zU ?_)
     refine zX ?_
     refine wx (zY (zU (zG ?_)))
     refine yA ?_
     refine zR 1 rfl (zN ?_)
     rw[hsz]
     refine WE.again (0+1) qO (by(try dsimp only);omega) ⟨rfl,rfl,rfl,rfl,rfl,rfl,rfl,rfl,rfl,rfl⟩ (RLe.refl _) qS
    ·
     have hsz:szN (szL fs (us.take k)) ⟨(nth fs (nth us k).toNat).f.lo,(nth fs (nth us k).toNat).f.hi⟩=szL fs (us.take (k+1)):=szN_eq fs hkl (by omega)
     refine zK (zU ?_)
     refine W.regionD _ [.blk b9 [.int .i64 (nth fs (nth us k).toNat).f.lo,.int .i64 (nth fs (nth us k).toNat).f.hi]] [.blk b9 [.int .i64 (nth fs (nth us k).toNat).f.lo,.int .i64 (nth fs (nth us k).toNat).f.hi],.sl 35 2 (some ⟨a30,0,none⟩) 1 ([szL fs (us.take k)].map encZ)] [20] mixed ?_
     refine vP 0 ?_
     refine vP 1 ?_
     refine vP 2 ?_
     refine vP 3 ?_
     refine VA.take2 4 rfl qK qK qK rfl qK qK rfl rfl qD (Yl.indexN tab_ok rfl rfl rfl rfl rfl rfl (fun _=>rfl) qN qH) qS qR qS ?_
     refine vP 5 ?_
     refine vD 6 (r:=by apply Rd.add;exact Rd.slD 1 rfl (by simp)) (k:=?_)
     refine vP 7 ?_
     refine vD 8 (r:=by apply Rd.add;(exact Rd.blk 0 rfl)) (k:=?_)
     refine vP 9 ?_
     refine vP 10 ?_
     refine vP 11 ?_
     refine VA.take2 12 rfl qK qK qK rfl qK qK rfl rfl qD (Yl.indexN tab_ok rfl rfl rfl rfl rfl rfl (fun _=>rfl) qN qH) qS qR qS ?_
     refine vP 13 ?_
     refine vD 14 (r:=by apply Rd.add;exact Rd.slD 1 rfl (by simp)) (k:=?_)
     refine vP 15 ?_
     refine vD 16 (r:=by apply Rd.add;(exact Rd.blk 0 rfl)) (k:=?_)
     refine vP 17 ?_
     refine VA.take2 18 rfl qK qK qK rfl qK qK rfl rfl qD (Yl.build (parts:=[(0,.tmp 71),(1,.tmp 79)]) tab_ok rfl rfl rfl rfl (fun _=>rfl) rfl rfl) qS qR qS ?_
     refine VA.take2 19 rfl qK qK qK rfl qK qK rfl rfl qD (Yl.indexN tab_ok rfl rfl rfl rfl rfl rfl (fun _=>rfl) qN qH) qS qR qS ?_
     refine VA.one (i:=20) qK ?_
     refine VS.effN rfl rfl rfl (Ef.storeD (enc:=encZ) (xs:=[szL fs (us.take k)]) (szN (szL fs (us.take k)) ⟨(nth fs (nth us k).toNat).f.lo,(nth fs (nth us k).toNat).f.hi⟩) 1 tab_ok rfl rfl rfl rfl rfl (by simp) rfl rfl rfl rfl ?_)
     refine⟨by first|exact RLe.refl _|assumption,qS,(noD qK),?_⟩
     refine VA.done qK ?_
     refine zL (zU (zG ?_))
     refine yA ?_
     refine zR 1 rfl (zN ?_)
     rw[hsz]
     refine WE.again (k+1) qO (by(try dsimp only);omega) ⟨rfl,rfl,rfl,rfl,rfl,rfl,rfl,rfl,rfl,rfl⟩ (RLe.refl _) qS
   ·
    obtain rfl:k=us.length:=by omega
    rw[List.take_length]
    refine zX ?_
    refine wx (wx (zY (zL (zU (zG ?_)))))
    refine yA ?_
    refine zR 1 rfl (zN ?_)
    refine WE.again ((1,szL fs us,R1)) (⟨by(try dsimp only);omega,hR01,fun _=>rfl⟩) (by(try dsimp only);omega) ⟨rfl,rfl,rfl,rfl,rfl,rfl⟩ (RLe.refl _) qS
  ·
   obtain rfl:i=1:=by omega
   obtain rfl:=hy rfl
   refine W.freeze (enc:=encZ) (xs:=[szL fs us]) 0 rfl ?_
   intro R2 hR2 hqs
   refine zX ?_
   refine wx (wx (zY (zU (zQ (zG (zR 2 rfl (zN (zU (zT ?_)))))))))
   refine zq1 (by first|exact hRk.trans hR2|exact hR01) ?_
   exact⟨_,_,Nat.le_refl _,rfl,hqs,qS⟩

theorem RightP_V {R:Ro} {za:Option Addr} {zc:Nat} {z:List Sz} (hzr:RS R 2 encZ za z):FnV Tryz.prog 198 [.slice za z.length zc] R (.bool (zOk z)):=by
 have hla:=hzr.len
 refine Fn.toV (fun w0 E=>?_)
 refine fE 27 Tryz.func198 ?_
 refine zQ (zG (zR 1 rfl (zN (zU (zQ (zQ (zG (zR 3 rfl (zN (zU (zB ?_)))))))))))
 refine W.loopK (β:=Nat) (fun i=>i≤z.length∧∀ j,j<i→0≤(nth z j).least∧(nth z j).least≤(nth z j).most∧(nth z j).most≤1500) (fun i=>[(7,true,.int .i64 (i:Int))]) [5,6] [_,_] [] _ rfl (fun i=>[]) (fun i=>z.length - i) (0) (⟨Nat.zero_le _,fun j hj=>by omega⟩) ⟨rfl,rfl,rfl,rfl⟩ qS ?_
 intro i hst
 dsimp only[zipE,setAll,List.cons_append,List.nil_append,List.set_cons_zero,List.set_cons_succ]
 refine zQ (zG (zR 1 rfl (zN (zU (zQ ?_)))))
 refine cD rfl ?_ ?_<;>intro hc0
 ·
  have hil:i<z.length:=by omega
  refine zK (zU (zQ (zB (zQ (zG ?_)))))
  refine yI ?_
  refine yD (r:=by((apply RS.rdD;assumption;((try dsimp only)<;>omega)))) (k:=?_)
  refine zA fun b4=>?_
  refine zE 0 ?_
  refine zN (zU (zQ (zG (zR 1 rfl ?_))))
  refine yM 0 ?_
  refine zR 2 rfl ?_
  refine yP ?_
  refine yG (Rd.addC (Rd.blkC 0 rfl) _) ?_
  refine yP ?_
  refine yG (Rd.addC (Rd.blkC 0 rfl) _) ?_
  refine yP ?_
  refine yO ?_
  refine zR 1 rfl ?_
  refine yP ?_
  refine yG (Rd.addC (Rd.blkC 0 rfl) _) ?_
  refine yP ?_
  refine yO ?_
  refine zN (zU ?_)
  refine cC rfl ?_ ?_<;>intro hc1
  ·try simp only[zk] at hc1
   have hno:zOk z=false:=by
    rw[← Bool.not_eq_true]
    intro h
    have:=zOk_iff.1 h _ (nth_mem hil)
    omega
   refine zQ (zG (zR 1 rfl (zN (zU (zT (wb (wt (wt (wb (wt ?_))))))))))
   refine sE (E:=E) ?_
   refine zr1 ?_
   exact⟨by rw[hno];rfl,rfl⟩
  ·try simp only[zk] at hc1
   have hy:0≤(nth z i).least∧(nth z i).least≤(nth z i).most∧(nth z i).most≤1500:=by omega
   refine zK (zL (zU (zG ?_)))
   refine yA ?_
   refine zR 1 rfl (zN ?_)
   refine WE.again (i+1) (⟨by omega,fun j hj=>by
    by_cases e:j=i
    ·subst e;exact hy
    ·exact hst.2 j (by omega)⟩) (by(try dsimp only);omega) ⟨rfl,rfl,rfl,rfl⟩ (RLe.refl _) qS
 ·
  refine zX ?_
  refine wx (wx (zY (zU (zQ (zG (zR 1 rfl (zN (zU (zT ?_)))))))))
  refine sE (E:=E) ?_
  refine zr1 ?_
  exact⟨by rw[zOk_iff.2 (all_of_nth (fun j hj=>hst.2 j (by omega)))];rfl,rfl⟩
theorem CheckP_V {R:Ro} {za:Option Addr} {zc:Nat} {z:List Sz} {cap cls:Int} (hzr:RS R 2 encZ za z):FnV Tryz.prog 158 [.int .i64 cap,.int .i64 cls,.slice za z.length zc] R (.int .i64 (chk18 cap cls z)):=by
 have hla:=hzr.len
 refine Fn.toV (fun w0 E=>?_)
 refine fE 38 Tryz.func158 ?_
 refine zQ (zG (zR 1 rfl (zN (zU (zQ (zQ (zG (zR 3 rfl ?_))))))))
 refine yP ?_
 refine yP ?_
 refine yO ?_
 refine zR 1 rfl ?_
 refine yP ?_
 refine yP ?_
 refine yP ?_
 refine yO ?_
 refine zR 1 rfl ?_
 refine yP ?_
 refine yP ?_
 refine yP ?_
 refine yO ?_
 refine zR 1 rfl ?_
 refine yP ?_
 refine WG.callV en198 rfl rfl qD (CallOp.mk' rfl rfl rfl rfl) qE (fun hg=>RightP_V hzr) ?_
 refine yP ?_
 refine yO ?_
 refine zR 1 rfl ?_
 refine yP ?_
 refine yP ?_
 refine yO ?_
 refine zR 1 rfl ?_
 refine yP ?_
 refine yP ?_
 refine yP ?_
 refine yP ?_
 refine yO ?_
 refine zN (zU ?_)
 refine cC rfl ?_ ?_<;>intro hc0
 ·try simp only[zk] at hc0
  have e:chk18 cap cls z=2:=if_pos (by
   rcases hc0 with (((((h|h)|h)|h)|h)|h)|h
   ·exact .inl h
   ·exact .inr (.inl h)
   ·exact .inr (.inr (.inl h))
   ·exact .inr (.inr (.inr (.inl h)))
   ·exact .inr (.inr (.inr (.inr (.inl h))))
   ·exact .inr (.inr (.inr (.inr (.inr (.inl h)))))
   ·exact .inr (.inr (.inr (.inr (.inr (.inr h))))))
  refine zQ (zG (zR 1 rfl (zN (zU (zT (wt ?_))))))
  refine sE (E:=E) ?_
  refine zr1 ?_
  exact⟨by rw[e];rfl,rfl⟩
 ·try simp only[zk] at hc0
  have e:chk18 cap cls z=0:=if_neg (by
   rintro(h|h|h|h|h|h|h)<;>first|omega|(simp_all;done))
  refine zK (zU (zQ (zG (zR 1 rfl (zN (zU (zT ?_)))))))
  refine sE (E:=E) ?_
  refine zr1 ?_
  exact⟨by rw[e];rfl,rfl⟩


theorem PTotal_len {R:Ro} {la:Option Addr} {lc l:Nat} {ls:List CvS} (hl:ls.length=l) (hla:RS R 3 encC la ls) (hls:∀ x∈ls,RS R 1 encI x.a x.cv.vals∧validB x.cv=true) (w0:World) (E:List Ent):K.Fn Tryz.prog 159 [.slice la l lc] w0 R E (fun r R' E'=>∃ (f:Option Addr) (fc:Nat),r=cvV f fc (totalC (ls.map CvS.cv))∧RS R' 1 encI f (totalC (ls.map CvS.cv)).1.vals∧E.Sublist E'):=by
 subst hl;exact PTotal_C hla hls w0 E

theorem ReachF_V {R:Ro} {fa:Option Addr} {fc:Nat} {F:Nat→Int} {S P:Nat} {I:Int} (hf:FC F S P I) (ha:RS R 1 encI fa (fvals F (S+P))) {v:Int} (hv:0≤v∧v≤1000000000000000):FnV Tryz.prog 136 [.agg #[.slice fa (fvals F (S+P)).length fc,.int .i64 (P:Int),.int .i64 I],.int .i64 v] R (.tuple #[.int .i64 (reachF F S P I v).1,.bool (reachF F S P I v).2]):=by
 have hfl:=fvals_len F (S+P)
 have hP:=hf.hP
 have hn:=hf.hn
 have hI:=hf.hI
 refine Fn.toV (fun w0 E=>?_)
 refine fE 66 Tryz.func136 ?_
 refine zQ (zG ?_)
 refine zO fun b2=>?_
 refine zR 2 rfl (zN (zU (zQ (zQ (zG (zR 1 rfl ?_))))))
 refine yM 0 ?_
 refine zR 2 rfl (zN (zU (zB ?_)))
 refine W.loopK (β:=Nat) (fun t=>t≤S+P∧∀ j,j<t→F j<v) (fun t=>[(15,true,.int .i64 (t:Int))]) [1,2,13,14] [_,_,_,_] [] _ rfl (fun t=>[]) (fun t=>S+P - t) (0) (⟨Nat.zero_le _,fun j hj=>by omega⟩) ⟨rfl,rfl,rfl,rfl,rfl,rfl⟩ qS ?_
 intro t hst
 dsimp only[zipE,setAll,List.cons_append,List.nil_append,List.set_cons_zero,List.set_cons_succ]
 obtain⟨ht,hno⟩:=hst
 refine zQ (zG (zR 1 rfl (zN (zU (zQ ?_)))))
 refine cD rfl ?_ ?_<;>intro hc0
 ·
  have htl:t<S+P:=by omega
  have hft:=fvals_nth F htl
  refine zK (zU (zQ (zB (zQ (zG (zR 1 rfl ?_))))))
  refine yI ?_
  refine yD (r:=by((apply RS.rdD;assumption;((try dsimp only)<;>omega)))) (k:=?_)
  refine zR 2 rfl (zN (zU (zQ (zG (zR 3 rfl (zN (zU ?_)))))))
  refine cD rfl ?_ ?_<;>intro hc1
  ·
   have hff:findFrom (fun t=>decide (F t≥v)) (S+P) 0=t:=findFrom_some (Nat.zero_le _) (by omega) (decide_eq_true (by rw[← hft];exact hc1)) (fun j _ hj=>decide_eq_false (by have:=hno j hj;omega))
   have hr:reachF F S P I v=((t:Int),true):=by unfold reachF;rw[hff,if_pos (by omega)]
   refine zQ (zG (zR 3 rfl (zN (zU (zT (wb (wt (wt (wb (wt ?_))))))))))
   refine sE (E:=E) ?_
   refine zr2 ?_
   exact⟨by rw[hr];rfl,rfl⟩
  ·
   refine zK (zL (zU (zG ?_)))
   refine yA ?_
   refine zR 1 rfl (zN ?_)
   refine WE.again (t+1) (⟨by omega,fun j hj=>by
    by_cases e:j=t
    ·subst e;rw[← hft];omega
    ·exact hno j (by omega)⟩) (by(try dsimp only);omega) ⟨rfl,rfl,rfl,rfl,rfl,rfl⟩ (RLe.refl _) qS
 ·
  obtain rfl:t=S+P:=by omega
  have hff:findFrom (fun t=>decide (F t≥v)) (S+P) 0=-1:=findFrom_none (fun j _ hj=>decide_eq_false (by have:=hno j (by omega);omega))
  have hlast:=hno (S+P - 1) (by omega)
  have hvl:nth (fvals F (S+P)) ((((fvals F (S+P)).length:Int) - 1).toNat)=F (S+P - 1):=by rw[show (((fvals F (S+P)).length:Int) - 1).toNat=S+P - 1 by omega,fvals_nth F (by omega)]
  have hlb:=hf.hb (S+P - 1) (by omega)
  have hl0:=hf.nonneg (S+P - 1)
  refine zX ?_
  refine wx (wx (zY (zU (zQ ?_))))
  refine W.regionQ _ mixed qK ?_
  refine zR 1 rfl ?_
  refine yM 0 ?_
  refine zR 2 rfl ?_
  refine yM 0 ?_
  refine zR 2 rfl (zN (zU (zQ (zQ (zG (zR 3 rfl ?_))))))
  refine yP ?_
  refine yG (Rd.addC (Rd.blkC 0 rfl) _) ?_
  refine yP ?_
  refine yO ?_
  refine zN (zU ?_)
  refine cC rfl ?_ ?_<;>intro hc2
  ·try simp only[zk] at hc2
   have hI0:I=0:=by rcases hc2 with h|h;omega;exact h
   have hr:reachF F S P I v=(0,false):=by unfold reachF;rw[hff,if_neg (fun hh=>hh rfl),if_pos hI0]
   refine zQ (zG (zR 2 rfl (zN (zU (zT (wt ?_))))))
   refine sE (E:=E) ?_
   refine zr2 ?_
   exact⟨by rw[hr];rfl,rfl⟩
  ·try simp only[zk] at hc2
   have hI0:I≠0:=by
    intro h
    apply Classical.byContradiction
    intro hn
    simp_all
   obtain⟨g1,g2,g3,g4⟩:=reach_facts hf hI0 hlast
   obtain⟨k,hk⟩:=Int.eq_ofNat_of_zero_le (show 0≤(v - F (S+P - 1)+I - 1) / I by omega)
   have hkv:(k:Int)≤v+I:=by
    have:(k:Int)*1≤(k:Int)*I:=Int.mul_le_mul_of_nonneg_left (by omega) (by omega)
    rw[hk] at g2;omega
   have hr:reachF F S P I v=(findFrom (fun t=>decide (F t≥v)) (P+1) (S+P+(k - 1)*P),true):=by unfold reachF;rw[hff,if_neg (fun hh=>hh rfl),if_neg hI0,hk,Int.toNat_natCast]
   rw[hk,Int.toNat_natCast] at g3
   rw[hk] at g1 g2 g4
   have hkP:((k - 1)*P:Nat)≤1100000000000000*120:=Nat.mul_le_mul (by omega) (by omega)
   have hkP2:((k:Int) - 1)*(P:Int)=(((k - 1)*P:Nat):Int):=by rw[Int.natCast_mul,show ((k - 1:Nat):Int)=(k:Int) - 1 by omega]
   generalize ht0:S+P+(k - 1)*P=t0 at hr g3
   refine zK (zU (zQ ?_))
   refine W.regionQ _ mixed qK ?_
   refine zR 2 rfl ?_
   refine yM 0 ?_
   refine zR 1 rfl ?_
   refine yS ?_
   refine yX ?_
   refine yD (r:=by((apply RS.rdD;assumption;((try dsimp only)<;>omega)))) (k:=?_)
   rw[hvl]
   refine yS ?_
   refine zR 1 rfl ?_
   refine yM 0 ?_
   refine yA ?_
   refine yS ?_
   refine zR 1 rfl ?_
   refine yM 0 ?_
   refine yV ?_
   refine zR 1 rfl (zN (zU ?_))
   rw[hk]
   refine zQ (zG (zR 2 rfl ?_))
   refine yS ?_
   refine zR 1 rfl ?_
   refine yU ?_
   refine yA ?_
   rw[hkP2,show (((fvals F (S+P)).length:Int))+(((k - 1)*P:Nat):Int)=(t0:Int) by omega]
   refine zR 1 rfl (zN (zU (zQ (zB ?_))))
   refine W.loopK (β:=Nat) (fun t=>t0≤t∧t≤t0+(P - 1)∧∀ j,t0≤j→j<t→F j<v) (fun t=>[(11,true,.int .i64 (t:Int))]) [1,2] [_,_] [] _ rfl (fun t=>[]) (fun t=>t0+P - t) (t0) (⟨Nat.le_refl _,by omega,fun j a b=>by omega⟩) ⟨rfl,rfl,rfl,rfl⟩ qS ?_
   intro t hst
   dsimp only[zipE,setAll,List.cons_append,List.nil_append,List.set_cons_zero,List.set_cons_succ]
   obtain⟨ht1,ht2,hno2⟩:=hst
   have hmt:=hf.mono ht2
   have hbt:F t≤v+1073741824:=by omega
   refine zQ (zQ (zG ?_))
   refine yB 0 ?_
   refine zR 1 rfl ?_
   refine WG.callV en109 rfl rfl qD (CallOp.mk' rfl rfl rfl rfl) (fun _=>rfl) (fun hg=>WAt_V hf ha qO qO) ?_
   refine zR 2 rfl (zN (zU ?_))
   refine cD rfl ?_ ?_<;>intro hc3
   ·
    refine zK (zU (zB (zG (zR 1 rfl ?_))))
    refine yA ?_
    refine zR 1 rfl (zN (zL ?_))
    refine WE.again (t+1) (⟨by omega,by
     apply Classical.byContradiction
     intro hn
     have e:t=t0+(P - 1):=by omega
     rw[e,g3] at hc3
     omega,fun j a b=>by
     by_cases e:j=t
     ·subst e;exact hc3
     ·exact hno2 j a (by omega)⟩) (by(try dsimp only);omega) ⟨rfl,rfl,rfl,rfl⟩ (RLe.refl _) qS
   ·
    have hff2:findFrom (fun t=>decide (F t≥v)) (P+1) t0=t:=findFrom_some ht1 (by omega) (decide_eq_true (by omega)) (fun j a b=>decide_eq_false (by have:=hno2 j a b;omega))
    rw[hff2] at hr
    refine zX ?_
    refine wx (wx (zY (zU (zQ (zG (zR 3 rfl (zN (zU (zT ?_)))))))))
    refine sE (E:=E) ?_
    refine zr2 ?_
    exact⟨by rw[hr];rfl,rfl⟩
theorem Greatest_V {R:Ro} {g:FuncId} {fi ca:Array Value} {f:Nat→Int × Bool} {n:Nat} (hE:Enters Tryz.prog g) (hF:∀ t:Nat,t<n→FnV Tryz.prog g (fi.toList++[.int .i64 (t:Int)]++ca.toList) R (.tuple #[.int .i64 (f t).1,.bool (f t).2])) (hn:n≤1000000):FnV Tryz.prog 134 [.int .i64 (n:Int),.func (.func g) fi ca] R (.agg #[.bool (greatW f n 0 0 0).1,.int .i64 (greatW f n 0 0 0).2.1,.int .i64 (greatW f n 0 0 0).2.2]):=by
 refine Fn.toVS (fun w0 E=>?_)
 refine fE 32 Tryz.func134 ?_
 refine zQ (zG ?_)
 refine zA fun b4=>?_
 refine zN (zU (zQ (zG ?_)))
 refine zA fun b5=>?_
 refine zN (zU (zQ (zQ (zG (zR 2 rfl (zN (zU (zB ?_))))))))
 refine W.loopK (β:=Nat × Int × Int) (fun (t,v,a)=>t≤n∧greatW f (n - t) t v a=greatW f n 0 0 0) (fun (t,v,a)=>[(10,true,.int .i64 (t:Int))]) [1,4,5,9] [_,_,_,_] [] _ rfl (fun (t,v,a)=>[(0,.blk b5 [.bool false,.int .i64 v,.int .i64 a])]) (fun (t,v,a)=>n - t) ((0,0,0)) (⟨Nat.zero_le _,by rfl⟩) ⟨rfl,rfl,rfl,rfl,rfl,rfl⟩ qS ?_
 intro st hst
 obtain⟨t,v,a⟩:=st
 dsimp only[zipE,setAll,List.cons_append,List.nil_append,List.set_cons_zero,List.set_cons_succ]
 obtain⟨ht,hg⟩:=hst
 refine zQ (zG (zR 1 rfl (zN (zU (zQ ?_)))))
 refine cD rfl ?_ ?_<;>intro hc0
 ·
  have htl:t<n:=by omega
  obtain⟨m,hm⟩:∃ m,n - t=m+1:=⟨n - t - 1,by omega⟩
  have hm2:n - (t+1)=m:=by omega
  rw[hm,greatW] at hg
  refine zK (zU (zQ (zB (zQ (zG (zR 2 rfl (zN (zU (zQ (zG (zR 2 rfl ?_)))))))))))
  refine WG.callV (v:=.tuple #[.int .i64 (f t).1,.bool (f t).2]) hE rfl rfl qD (CallOp.mk' rfl rfl rfl rfl) (fun _=>rfl) (fun hg=>hF t htl) ?_
  refine zR 5 rfl (zN (zU (zQ (zQ (zG (zR 2 rfl (zN (zU ?_))))))))
  refine cC rfl ?_ ?_<;>intro hc1
  ·try simp only[zk] at hc1
   have hok:(f t).2=false:=by simpa using hc1
   rw[if_pos hok] at hg
   refine zQ (zG ?_)
   refine yW [(0,.const (.bool true))] ?_
   refine zE 1 ?_
   refine zN (zU (zT (wt (wb (wt (wt (wb (wt ?_))))))))
   refine zr3 ?_
   exact⟨by rw[← hg];rfl,qS⟩
  ·try simp only[zk] at hc1
   have hok:¬ (f t).2=false:=by simpa using hc1
   rw[if_neg hok] at hg
   refine zK (zU (zQ (zG (zR 2 rfl ?_))))
   refine yM 0 ?_
   refine zR 1 rfl (zN (zU ?_))
   refine cD rfl ?_ ?_<;>intro hc2
   ·
    rw[if_pos hc2,← hm2] at hg
    refine zG (zR 3 rfl ?_)
    refine zF 0 ?_
    refine zR 1 rfl ?_
    refine zF 0 ?_
    refine zN (zL (zU (zG ?_)))
    refine yA ?_
    refine zR 1 rfl (zN ?_)
    refine WE.again ((t+1,(f t).1,t)) (⟨by dsimp only;omega,hg⟩) (by(try dsimp only);omega) ⟨rfl,rfl,rfl,rfl,rfl,rfl⟩ (RLe.refl _) qS
   ·
    rw[if_neg (by omega),← hm2] at hg
    refine zK (zL (zU (zG ?_)))
    refine yA ?_
    refine zR 1 rfl (zN ?_)
    refine WE.again ((t+1,v,a)) (⟨by dsimp only;omega,hg⟩) (by(try dsimp only);omega) ⟨rfl,rfl,rfl,rfl,rfl,rfl⟩ (RLe.refl _) qS
 ·
  obtain rfl:t=n:=by omega
  rw[Nat.sub_self,greatW] at hg
  refine zX ?_
  refine wx (wx (zY (zU (zQ (zG ?_)))))
  refine yB 0 ?_
  refine zE 1 ?_
  refine zN (zU (zT ?_))
  refine zr3 ?_
  exact⟨by rw[← hg];rfl,qS⟩


theorem CommonC_V {R:Ro} {m1 m2:Cv} (hv1:validB m1=true) (hv2:validB m2=true):FnV Tryz.prog 179 [.int .i64 m1.per,.int .i64 m2.per] R (.int .i64 (lcmC m1 m2:Int)):=by
 obtain⟨_,_,_,p1,p2,_⟩:=valid_range hv1
 obtain⟨_,_,_,q1,q2,_⟩:=valid_range hv2
 have h:=Common_V (R:=R) (a:=m1.per.toNat) (b:=m2.per.toNat) (by omega) (by omega)
 rw[Int.toNat_of_nonneg (by omega),Int.toNat_of_nonneg (by omega)] at h
 exact h
theorem lcmC_le {m1 m2:Cv} (hv1:validB m1=true) (hv2:validB m2=true):lcmC m1 m2≤14400:=by
 obtain⟨_,_,_,p1,p2,_⟩:=valid_range hv1
 obtain⟨_,_,_,q1,q2,_⟩:=valid_range hv2
 exact Nat.le_trans (lcmN_facts qO qO).2.2.1 (Nat.mul_le_mul (show m1.per.toNat≤120 by omega) (show m2.per.toNat≤120 by omega))
end Go.Proofs.YtehaepbflkncdaaGreat