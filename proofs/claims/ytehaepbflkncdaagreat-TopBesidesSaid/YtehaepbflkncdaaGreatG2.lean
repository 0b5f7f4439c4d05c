/- Rules and walks, joined from 85 texts: the first of them says: Curves of schedulers, plain: what the walks of rounds, the first enough and the build want. No condition. -/
import Derived.Test.YtehaepbflkncdaaGreatG1
import Derived.Lib.Atoi
import Derived.Lib.AtoiAll
import Derived.Lib.AtoiTie
import Derived.Lib.AtoiAllCases
import Derived.Lib.ItoaLen
import Derived.Lib.IndexBytes
import Derived.Lib.Split
import Derived.Lib.Join
import Derived.WideMake
import Derived.WalkSmall
import Derived.Defers
import Derived.Recover
import Derived.Lib.CutLaws
import Derived.RangeFuncNested
import Derived.OrdersIn
import Derived.Laws.Pointers
import Derived.Lib.Builder
import Derived.Lib.AppendStr
import Derived.Laws.Externs
import Derived.Laws.BytesString
import Derived.Laws.IdiomStrings
import Derived.Laws.Runes
set_option linter.unusedSimpArgs false
set_option linter.unusedVariables false
set_option linter.unnecessarySimpa false
namespace Go.Proofs.YtehaepbflkncdaaGreat.M
open Go Go.Proofs.YtehaepbflkncdaaGreat.K
theorem findFrom_some {P:Nat→Bool} {k a i:Nat} (h1:a≤i) (h2:i<a+k) (hP:P i=true) (h:∀ j,a≤j→j<i→P j=false):findFrom P k a=i:=by
 rcases findFrom_cases P k a with ⟨r,r1,r2,r3,r4,r5⟩|⟨_,r2⟩
 ·rcases Nat.lt_trichotomy i r with h5|h5|h5
  ·rw[r5 i h1 h5] at hP;cases hP
  ·subst h5;exact r3
  ·rw[h r r1 h5] at r4;cases r4
 ·rw[r2 i h1 h2] at hP;cases hP
theorem findFrom_none {P:Nat→Bool} {k a:Nat} (h:∀ j,a≤j→j<a+k→P j=false):findFrom P k a=-1:=by
 rcases findFrom_cases P k a with ⟨r,r1,r2,r3,r4,r5⟩|⟨r1,_⟩
 ·rw[h r r1 r2] at r4;cases r4
 ·exact r1
theorem gcd_step (x y:Nat):Nat.gcd y (x % y)=Nat.gcd x y:=by
 rw[Nat.gcd_comm y (x % y),← Nat.gcd_rec,Nat.gcd_comm]
def partV (F:Nat→Int) (t n:Nat):List Int:=fvals F t++List.replicate (n - t) 0
theorem partV_all (F:Nat→Int) (n:Nat):partV F n n=fvals F n:=by simp[partV]
theorem partV_len (F:Nat→Int) {t n:Nat} (h:t≤n):(partV F t n).length=n:=by simp[partV,fvals_len];omega
theorem partV_take (F:Nat→Int) (t n:Nat):(partV F t n).take t=fvals F t:=by
 unfold partV;rw[List.take_append_of_le_length (by rw[fvals_len];exact Nat.le_refl _)];exact List.take_of_length_le (by rw[fvals_len];exact Nat.le_refl _)
theorem partV_set (F:Nat→Int) {t n:Nat} (h:t<n):(partV F t n).set t (F t)=partV F (t+1) n:=by
 unfold partV
 rw[List.set_append_right _ _ (by rw[fvals_len];exact Nat.le_refl _),fvals_len,Nat.sub_self,show n - t=(n - (t+1))+1 by omega,List.replicate_succ,List.set_cons_zero,fvals_snoc,List.append_assoc]
 rfl
theorem partV_nth (F:Nat→Int) {t k n:Nat} (h:t<k):nth (partV F k n) t=F t:=by
 have e:(partV F k n)[t]?=some (F t):=by
  unfold partV
  rw[List.getElem?_append_left (by rw[fvals_len];exact h)]
  have:=nth_get (xs:=fvals F k) (i:=t) (by rw[fvals_len];exact h)
  rw[fvals_nth F h] at this
  exact this
 unfold nth;rw[List.getD_eq_getElem?_getD,e];rfl
def cvV (f:Option Addr) (fc:Nat) (x:Cv × Int):Value:=.tuple #[.agg #[.slice f x.1.vals.length fc,.int .i64 x.1.per,.int .i64 x.1.inc],.int .i64 x.2]
theorem checkedE_vals (v:List Int):checkedE v=3∨checkedE v=0:=by unfold checkedE;split<;>simp
theorem checkedL_bad {v:List Int} {p q:Int} (h:checkedE v=3):checkedL v p q=(zcv,3):=if_pos h
theorem checkedL_good {v:List Int} {p q:Int} (h:checkedE v≠3):checkedL v p q=(⟨v,p,q⟩,0):=if_neg h
theorem checkedE_big {v:List Int} (h:400<v.length):checkedE v=3:=if_pos (.inl h)
theorem checkedE_one {v:List Int} {i:Nat} (hi:i<v.length) (h1:nth v i≠INF) (h2:MAXV<nth v i):checkedE v=3 :=
 if_pos (.inr (List.any_eq_true.2 ⟨_,nth_mem hi,by simp[h1,h2]⟩))
theorem checkedE_fine {v:List Int} (h:v.length≤400) (hn:∀ j,j<v.length→nth v j=INF∨nth v j≤MAXV):checkedE v≠3:=by
 unfold checkedE
 rw[if_neg]
 ·decide
 ·rintro(h1|h1)
  ·omega
  ·obtain⟨x,hx,h2⟩:=List.any_eq_true.1 h1
   obtain⟨i,hi,rfl⟩:=List.getElem_of_mem hx
   have h3:=hn i hi
   rw[nth_eq hi] at h3
   simp at h2
   rcases h3 with h3|h3
   ·exact h2.1 h3
   ·have:=h2.2;omega
theorem infAt_some {F:Nat→Int} {n t:Nat} (ht:t<n) (h:F t=INF) (hn:∀ j,j<t→F j≠INF):infAt F n=t :=
 findFrom_some (Nat.zero_le _) (by omega) (by simp[h]) (fun j _ h2=>by simp[hn j h2])
theorem infAt_none {F:Nat→Int} {n:Nat} (hn:∀ j,j<n→F j≠INF):infAt F n=-1 :=
 findFrom_none (fun j _ h2=>by simp[hn j (by omega)])
theorem leastL_some {v:List Int} {inc:Int} {p:Nat} (h0:1≤p) (h1:p<v.length) (hp:leastOk v inc p=true) (hn:∀ j,1≤j→j<p→leastOk v inc j=false):leastL v inc=p:=by
 unfold leastL
 rw[findFrom_some h0 (by omega) hp hn,if_neg (by omega),Int.toNat_natCast]
theorem leastL_none {v:List Int} {inc:Int} (h:∀ j,1≤j→j<v.length→leastOk v inc j=false):leastL v inc=v.length:=by
 unfold leastL
 rw[if_pos (findFrom_none (fun j a b=>h j a (by omega)))]
theorem leastL_pos {v:List Int} {inc:Int} (h:0<v.length):1≤leastL v inc∧leastL v inc≤v.length:=by
 unfold leastL
 rcases findFrom_cases (leastOk v inc) (v.length - 1) 1 with ⟨r,r1,r2,r3,r4,r5⟩|⟨r1,_⟩
 ·rw[r3,if_neg (by omega),Int.toNat_natCast];omega
 ·rw[r1,if_pos rfl];omega
def leastC (v:List Int) (inc:Int) (p i:Nat):Bool:=(if i+p<v.length then nth v (i+p) else nth v (i+p - v.length)+inc) == nth v i+inc*p / v.length
theorem leastOk_eq (v:List Int) (inc:Int) (p:Nat):leastOk v inc p=(v.length % p == 0 && (inc*p) % v.length == 0 && (List.range v.length).all (leastC v inc p)):=rfl
theorem leastOk_no1 {v:List Int} {inc:Int} {p:Nat} (h:v.length % p≠0∨(inc*p) % v.length≠0):leastOk v inc p=false:=by
 rw[leastOk_eq,← Bool.not_eq_true]
 intro hh
 simp only[Bool.and_eq_true,beq_iff_eq] at hh
 rcases h with h|h
 ·exact h hh.1.1
 ·exact h hh.1.2
theorem leastOk_no2 {v:List Int} {inc:Int} {p i:Nat} (hi:i<v.length) (h:leastC v inc p i=false):leastOk v inc p=false:=by
 rw[leastOk_eq,← Bool.not_eq_true]
 intro hh
 simp only[Bool.and_eq_true,List.all_eq_true,List.mem_range] at hh
 rw[hh.2 i hi] at h;cases h
theorem leastOk_yes {v:List Int} {inc:Int} {p:Nat} (h1:v.length % p=0) (h2:(inc*p) % v.length=0) (h3:∀ i,i<v.length→leastC v inc p i=true):leastOk v inc p=true:=by
 rw[leastOk_eq]
 simp only[Bool.and_eq_true,beq_iff_eq,List.all_eq_true,List.mem_range]
 exact⟨⟨h1,h2⟩,h3⟩
theorem mulB {a b A B:Int} (h1:0≤a∧a≤A) (h2:0≤b∧b≤B):0≤a*b∧a*b≤A*B :=
 ⟨Int.mul_nonneg h1.1 h2.1,Int.mul_le_mul h1.2 h2.2 h2.1 (by omega)⟩
def lcmN (a b:Nat):Nat:=a / Nat.gcd a b*b
theorem lcmN_facts {a b:Nat} (ha:0<a) (hb:0<b):lcmN a b=b / Nat.gcd a b*a∧lcmN a b=a / Nat.gcd a b*b∧lcmN a b≤a*b∧0<lcmN a b:=by
 have hg:0<Nat.gcd a b:=Nat.gcd_pos_of_pos_right _ hb
 have h1:Nat.gcd a b ∣ a:=Nat.gcd_dvd_left _ _
 have h2:Nat.gcd a b ∣ b:=Nat.gcd_dvd_right _ _
 refine⟨?_,rfl,Nat.mul_le_mul_right _ (Nat.div_le_self _ _),Nat.mul_pos (Nat.div_pos (Nat.le_of_dvd ha h1) hg) hb⟩
 unfold lcmN
 rw[Nat.div_mul_right_comm h1,Nat.div_mul_right_comm h2,Nat.mul_comm]
theorem grows_le {F G:Nat→Int} {S1 S2 P1 P2:Nat} {I1 I2:Int} (hg1:Grows F S1 P1 I1) (hg2:Grows G S2 P2 I2) (hle:∀ t,F t≤G t) {l a1 a2:Nat} (h1:l=a1*P1) (h2:l=a2*P2):(a1:Int)*I1≤(a2:Int)*I2:=by
 apply Classical.byContradiction
 intro hlt
 have e1:∀ x:Nat,F (S1+S2+x*l)=F (S1+S2)+(x:Int)*((a1:Int)*I1):=fun x=>by
  have:=hg1.mul (x*a1) (S1+S2) (by omega)
  rw[Nat.mul_assoc,← h1] at this
  rw[this,Int.natCast_mul,Int.mul_assoc]
 have e2:∀ x:Nat,G (S1+S2+x*l)=G (S1+S2)+(x:Int)*((a2:Int)*I2):=fun x=>by
  have:=hg2.mul (x*a2) (S1+S2) (by omega)
  rw[Nat.mul_assoc,← h2] at this
  rw[this,Int.natCast_mul,Int.mul_assoc]
 have h0:=hle (S1+S2)
 obtain⟨x,hx⟩:=Int.eq_ofNat_of_zero_le (show 0≤G (S1+S2) - F (S1+S2)+1 by omega)
 have h3:=hle (S1+S2+x*l)
 rw[e1,e2] at h3
 have h4:(x:Int)*((a2:Int)*I2+1)≤(x:Int)*((a1:Int)*I1):=Int.mul_le_mul_of_nonneg_left (by omega) (by omega)
 rw[Int.mul_add] at h4
 omega
structure FC (F:Nat→Int) (S P:Nat) (I:Int):Prop where
  hP:1≤P∧P≤120
  hn:S+P≤400
  hI:0≤I∧I≤1073741824
  hg:Grows F S P I
  hm:∀ t,F t≤F (t+1)
  h0:0≤F 0
  hb:∀ t,t<S+P→F t≤1073741824
section
variable {F G:Nat→Int} {S P S1 P1 S2 P2:Nat} {I I1 I2:Int}
theorem FC.nonneg (h:FC F S P I) (t:Nat):0≤F t:=by have:=mono_le h.hm (Nat.zero_le t);have:=h.h0;omega
theorem FC.mono (h:FC F S P I) {a b:Nat} (hab:a≤b):F a≤F b:=mono_le h.hm hab
theorem FC.bound (h:FC F S P I) (t:Nat):F t≤1073741824*((t:Int)+2):=by
 have hP:=h.hP
 have hI:=h.hI
 induction t using Nat.strongRecOn with
 | _ t ih =>
  by_cases ht:t<S+P
  ·have:=h.hb t ht;omega
  ·have h1:=ih (t - P) (by omega)
   have h2:=h.hg (t - P) (by omega)
   rw[show t - P+P=t by omega] at h2
   omega
theorem FC.fin (h:FC F S P I) {t:Nat} (ht:t<S+P):F t≠INF:=by have:=h.hb t ht;unfold INF;omega
theorem FC.atR (h:FC F S P I) (t:Nat):M.atR (fvals F (S+P)) P I (t:Int)=F t:=atR_fvals (by have:=h.hP;omega) h.hg (fun t ht=>h.fin ht) t
theorem fc_line {c:Int} (h:0≤c∧c≤1073741824):FC (fun t=>c*t) 0 1 c where
  hP:=by omega
  hn:=by omega
  hI:=h
  hg:=fun t _=>by dsimp only;rw[Int.natCast_add,Int.mul_add];simp
  hm:=fun t=>by show c*(t:Int)≤c*((t+1:Nat):Int);rw[Int.natCast_add,Int.mul_add];simp;omega
  h0:=by simp
  hb := fun t ht => by obtain rfl : t = 0 := by omega
                       simp
def reachF (G:Nat→Int) (S P:Nat) (I v:Int):Int × Bool :=
  if findFrom (fun t=>decide (G t≥v)) (S+P) 0≠-1 then (findFrom (fun t=>decide (G t≥v)) (S+P) 0,true)
  else if I=0 then (0,false)
  else (findFrom (fun t=>decide (G t≥v)) (P+1) (S+P+(((v - G (S+P - 1)+I - 1) / I).toNat - 1)*P),true)
theorem reach_facts (h:FC G S P I) {v:Int} (hI:I≠0) (hv:G (S+P - 1)<v):1≤(v - G (S+P - 1)+I - 1) / I∧((v - G (S+P - 1)+I - 1) / I)*I≤v - G (S+P - 1)+I - 1 ∧
  G (S+P+(((v - G (S+P - 1)+I - 1) / I).toNat - 1)*P+(P - 1))=G (S+P - 1)+((v - G (S+P - 1)+I - 1) / I)*I∧v≤G (S+P - 1)+((v - G (S+P - 1)+I - 1) / I)*I:=by
 have hI0:=h.hI
 have hP:=h.hP
 have hk:1≤(v - G (S+P - 1)+I - 1) / I:=Int.le_ediv_of_mul_le (by omega) (by omega)
 have hk2:((v - G (S+P - 1)+I - 1) / I)*I≤v - G (S+P - 1)+I - 1:=Int.ediv_mul_le _ (by omega)
 have hk3:=Int.lt_mul_ediv_self_add (x:=v - G (S+P - 1)+I - 1) (k:=I) (by omega)
 rw[Int.mul_comm] at hk3
 refine⟨hk,hk2,?_,by omega⟩
 obtain⟨k,e⟩:=Int.eq_ofNat_of_zero_le (show 0≤(v - G (S+P - 1)+I - 1) / I by omega)
 rw[e,Int.toNat_natCast]
 obtain⟨k',rfl⟩:∃ m,k=m+1:=⟨k - 1,by omega⟩
 have hg:=h.hg.mul (k' + 1) (S+P - 1) (by omega)
 rw[show S+P+(k' + 1 - 1)*P+(P - 1)=S+P - 1+(k' + 1)*P by rw[Nat.add_sub_cancel,Nat.add_mul k' 1 P];omega]
 exact hg
def greatW (f:Nat→Int × Bool):Nat→Nat→Int→Int→Bool × Int × Int
  | 0,_,v,a=>(false,v,a)
  | n+1,t,v,a=>if (f t).2=false then (true,0,0) else if (f t).1 > v then greatW f n (t+1) (f t).1 t else greatW f n (t+1) v a
theorem greatW_sound {f:Nat→Int × Bool}:∀ (n t:Nat) (v a:Int),(greatW f n t v a).1=false→v≤(greatW f n t v a).2.1∧∀ u,t≤u→u<t+n→(f u).2=true∧(f u).1≤(greatW f n t v a).2.1
 | 0,t,v,a,_=>⟨Int.le_refl _,fun u h1 h2=>by omega⟩
 | n + 1, t, v, a, h => by
  simp only[greatW] at h ⊢
  by_cases h1:(f t).2=false
  ·rw[if_pos h1] at h;cases h
  ·rw[if_neg h1] at h ⊢
   have h1':(f t).2=true:=by simpa using h1
   by_cases h2:(f t).1 > v
   ·rw[if_pos h2] at h ⊢
    obtain⟨k1,k2⟩:=greatW_sound n (t+1) _ _ h
    refine⟨by omega,fun u hu1 hu2=>?_⟩
    by_cases e:u=t
    ·subst e;exact⟨h1',k1⟩
    ·exact k2 u (by omega) (by omega)
   ·rw[if_neg h2] at h ⊢
    obtain⟨k1,k2⟩:=greatW_sound n (t+1) _ _ h
    refine⟨k1,fun u hu1 hu2=>?_⟩
    by_cases e:u=t
    ·subst e;exact⟨h1',by omega⟩
    ·exact k2 u (by omega) (by omega)
theorem greatW_bound {f:Nat→Int × Bool} {B:Int}:∀ (n t:Nat) (v a:Int),(∀ u,t≤u→u<t+n→(f u).1≤B)→0≤v→v≤B→0≤a→a≤t→0≤(greatW f n t v a).2.1∧(greatW f n t v a).2.1≤B∧0≤(greatW f n t v a).2.2∧(greatW f n t v a).2.2≤t+n
 | 0,t,v,a,_,h1,h2,h3,h4=>⟨h1,h2,h3,by simp only[greatW];omega⟩
 | n + 1, t, v, a, h, h1, h2, h3, h4 => by
  have ht:=h t (by omega) (by omega)
  simp only[greatW]
  by_cases k1:(f t).2=false
  ·rw[if_pos k1];dsimp only;omega
  ·rw[if_neg k1]
   by_cases k2:(f t).1 > v
   ·rw[if_pos k2]
    have:=greatW_bound (f:=f) (B:=B) n (t+1) (f t).1 t (fun u a b=>h u (by omega) (by omega)) (by omega) ht (by omega) (by omega)
    omega
   ·rw[if_neg k2]
    have:=greatW_bound (f:=f) (B:=B) n (t+1) v a (fun u a b=>h u (by omega) (by omega)) h1 h2 h3 (by omega)
    omega
end
theorem reach_bound {G:Nat→Int} {S P:Nat} {I v:Int} (h:FC G S P I) (hv:0≤v∧v≤1000000000000000):-1≤(reachF G S P I v).1∧(reachF G S P I v).1≤200000000000000000:=by
 unfold reachF
 have hP:=h.hP
 have hn:=h.hn
 have hI0:=h.hI
 rcases findFrom_cases (fun t=>decide (G t≥v)) (S+P) 0 with ⟨i,h1,h2,h3,h4,h5⟩|⟨h1,h2⟩
 ·rw[h3,if_pos (by omega)];dsimp only;omega
 ·rw[h1,if_neg (fun hh=>hh rfl)]
  by_cases hI:I=0
  ·rw[if_pos hI];dsimp only;omega
  ·rw[if_neg hI]
   have hlast:=of_decide_eq_false (h2 (S+P - 1) (by omega) (by omega))
   obtain⟨g1,g2,g3,g4⟩:=reach_facts h hI (show G (S+P - 1)<v by omega)
   have hl0:=h.nonneg (S+P - 1)
   have hk:(v - G (S+P - 1)+I - 1) / I≤v+I:=by
    have:((v - G (S+P - 1)+I - 1) / I)*1≤((v - G (S+P - 1)+I - 1) / I)*I:=Int.mul_le_mul_of_nonneg_left (by omega) (by omega)
    omega
   generalize (v - G (S+P - 1)+I - 1) / I=k at *
   have hkP:(k.toNat - 1)*P≤1100000000000000*120:=Nat.mul_le_mul (by omega) (by omega)
   dsimp only
   rcases findFrom_cases (fun t=>decide (G t≥v)) (P+1) (S+P+(k.toNat - 1)*P) with ⟨i,k1,k2,k3,_,_⟩|⟨k1,_⟩
   ·rw[k3];omega
   ·rw[k1];omega
theorem grows_mod {F:Nat→Int} {S m n:Nat} {J I:Int} (hm:Grows F S m J) (hn:Grows F S n I):Grows F S (n % m) (I - ((n / m:Nat):Int)*J):=fun t ht=>by
 have h1:=hm.mul (n / m) (t+n % m) (by omega)
 have h2:=hn t ht
 have e:t+n % m+n / m*m=t+n:=by
  have:=Nat.mod_add_div n m
  rw[Nat.mul_comm] at this
  omega
 rw[e,h2] at h1
 omega
theorem grows_gcd {F:Nat→Int} {S:Nat} (m n:Nat):∀ (J I:Int),Grows F S m J→Grows F S n I→∃ K:Int,Grows F S (Nat.gcd m n) K:=by
 refine Nat.gcd.induction (P:=fun m n=>∀ (J I:Int),Grows F S m J→Grows F S n I→∃ K:Int,Grows F S (Nat.gcd m n) K) m n ?_ ?_
 ·intro n J I _ h
  exact⟨I,by rw[Nat.gcd_zero_left];exact h⟩
 ·intro m n _ ih J I hm hn
  obtain⟨K,h⟩:=ih _ _ (grows_mod hm hn) hm
  exact⟨K,by rw[Nat.gcd_rec];exact h⟩
theorem grows_fac {F:Nat→Int} {S p:Nat} {J I:Int} {k:Nat} (h1:Grows F S p J) (h2:Grows F S (k*p) I):I=k*J:=by
 have a:=h1.mul k S (Nat.le_refl _)
 have b:=h2 S (Nat.le_refl _)
 omega
theorem PerOk.of_late {F:Nat→Int} {S S' P p:Nat} {I J:Int} (hP:0<P) (hp:P % p=0) (hg:Grows F S P I) (h:Grows F S' p J):PerOk F S P I p:=by
 have hl:Grows F (S' + S) P I:=hg.mono (by omega)
 have hj:Grows F (S' + S) p J:=h.mono (by omega)
 obtain⟨k,hk⟩:∃ k,P=k*p:=⟨P / p,by
  have:=Nat.mod_add_div P p
  rw[Nat.mul_comm (P / p) p]
  omega⟩
 have hI:I=k*J:=grows_fac hj (by rw[← hk];exact hl)
 have e:I*(p:Int)=J*(P:Int):=by
  rw[hI,hk]
  rw[Int.natCast_mul,Int.mul_comm (k:Int) J,Int.mul_assoc]
 refine⟨hp,by rw[e];exact Int.mul_emod_left J P,fun t ht _=>?_⟩
 rw[e,Int.mul_ediv_cancel _ (by omega)]
 have a1:=hg.mul S' t ht
 have a2:=hg.mul S' (t+p) (by omega)
 have h1:S'≤S' * P:=Nat.le_mul_of_pos_right S' hP
 have a3:=h (t+S' * P) (by omega)
 rw[show t+S' * P+p=t+p+S' * P by omega] at a3
 omega
theorem nf_same {F:Nat→Int} {S S' P P':Nat} {I I':Int} {p p' s s':Nat} (hP:0<P) (hP':0<P') (hg:Grows F S P I) (hg':Grows F S' P' I') (h:NF F S P I p s) (h':NF F S' P' I' p' s'):p=p'∧s=s'∧I*p / P=I' * p' / P':=by
 have g1:=h.least.2.1.all hP hg
 have g2:=h'.least.2.1.all hP' hg'
 have p1:=h.least.1
 have p2:=h'.least.1
 obtain⟨K,hK⟩:=grows_gcd p p' _ _ (g1.mono (show S≤S+S' by omega)) (g2.mono (show S'≤S+S' by omega))
 have hg0:0<Nat.gcd p p':=Nat.gcd_pos_of_pos_left _ (by omega)
 have d1:P % Nat.gcd p p'=0:=Nat.mod_eq_zero_of_dvd (Nat.dvd_trans (Nat.gcd_dvd_left p p') (Nat.dvd_of_mod_eq_zero h.least.2.1.1))
 have d2:P' % Nat.gcd p p'=0:=Nat.mod_eq_zero_of_dvd (Nat.dvd_trans (Nat.gcd_dvd_right p p') (Nat.dvd_of_mod_eq_zero h'.least.2.1.1))
 have e1:p=Nat.gcd p p':=by
  have hle:=Nat.gcd_le_left p' (show 0<p by omega)
  rcases Nat.lt_or_eq_of_le hle with hlt|he
  ·exact absurd (PerOk.of_late hP d1 hg hK) (h.least.2.2 _ hg0 hlt)
  ·exact he.symm
 have e2:p'=Nat.gcd p p':=by
  have hle:=Nat.gcd_le_right p (show 0<p' by omega)
  rcases Nat.lt_or_eq_of_le hle with hlt|he
  ·exact absurd (PerOk.of_late hP' d2 hg' hK) (h'.least.2.2 _ hg0 hlt)
  ·exact he.symm
 have e3:p=p':=by omega
 subst e3
 have e4:I*p / P=I' * p / P':=by
  have a:=g1 (S+S') (by omega)
  have b:=g2 (S+S') (by omega)
  omega
 refine⟨rfl,?_,e4⟩
 have hs:=h'.starts
 rw[← e4] at hs
 exact h.starts.unique hs
section
variable {F:Nat→Int} {S P S' P':Nat} {I I':Int}
theorem build_made_fin (hP:0<P) (hI:0≤I) (hg:Grows F S P I) (hP':0<P') (hI':0≤I') (hg':Grows F S' P' I') (hm:∀ t,F t≤F (t+1)) (h0:0≤F 0) (hf:∀ t,t<S+P→F t<INF) (hf':∀ t,t<S' + P'→F t<INF):mbuild F S P I=madeR ⟨fvals F (S' + P'),P',I'⟩:=by
 have hne:∀ t,t<S+P→F t≠INF:=fun t ht=>by have:=hf t ht;omega
 rw[mbuild_fin hne]
 obtain⟨p,s,h1,_,_,h2⟩:=finL_nf hP hg hne
 obtain⟨p',s',h3,_,_,h4⟩:=madeR_nf hP' hI' hg' hm h0 hf'
 obtain⟨e1,e2,e3⟩:=nf_same hP hP' hg hg' h1 h3
 subst e1;subst e2
 rw[h2,h4,e3]
theorem mbuild_inf {n:Nat} (hn:n<S+P) (hi:F n=INF) (hf:∀ t,t<n→F t≠INF):mbuild F S P I=checkedL (fvals F (n+1)) 1 0:=by
 unfold mbuild
 rw[infAt_some hn hi hf,if_neg (by omega),Int.toNat_natCast]
theorem infL_some {n m:Nat} (hn:n<m) (hi:F n=INF) (hf:∀ t,t<n→F t≠INF):infL (fvals F m)=n:=by
 unfold infL
 rw[fvals_len]
 exact findFrom_some (Nat.zero_le _) (by omega) (by rw[fvals_nth F hn,hi];simp) (fun j _ hj=>by rw[fvals_nth F (by omega)];simp[hf j hj])
theorem normR_inf {n m:Nat} {per inc:Int} (hn:n<m) (hi:F n=INF) (hf:∀ t,t<n→F t≠INF):normR ⟨fvals F m,per,inc⟩=⟨fvals F (n+1),1,0⟩:=by
 unfold normR
 dsimp only
 rw[infL_some hn hi hf,if_neg (by omega),Int.toNat_natCast,fvals_take F (by omega)]
theorem valid_inf {n:Nat} (hi:F n=INF) (hf:∀ t,t<n→0≤F t∧F t<INF) (hm:∀ t,t<n→F t≤F (t+1)):validB ⟨fvals F (n+1),1,0⟩=true↔n+1≤400∧∀ t,t<n→F t≤MAXV:=by
 rw[validB_iff]
 dsimp only
 rw[fvals_len,fvals_nth F (show n+1 - 1<n+1 by omega),show n+1 - 1=n by omega,if_pos hi]
 constructor
 ·rintro⟨⟨_,h2,_⟩,h3,_⟩
  refine⟨h2,fun t ht=>?_⟩
  have:=(h3 t (by omega)).1
  rw[fvals_nth F (by omega)] at this
  have h5:=hf t ht
  rcases this with h|h<;>omega
 ·rintro⟨h1,h2⟩
  refine⟨⟨by omega,h1,by decide,by decide,by omega,by decide,by unfold MAXV;omega⟩,fun i hi'=>?_,rfl,rfl⟩
  rw[fvals_nth F hi']
  refine⟨?_,?_⟩
  ·by_cases e:i=n
   ·subst e;exact .inl hi
   ·exact .inr ⟨(hf i (by omega)).1,h2 i (by omega)⟩
  ·by_cases e:i=0
   ·exact .inl e
   ·right
    rw[fvals_nth F (by omega)]
    have:=hm (i - 1) (by omega)
    rwa [show i - 1+1=i by omega] at this
theorem checked_inf {n:Nat} (hi:F n=INF) (hf:∀ t,t<n→0≤F t∧F t<INF):checkedE (fvals F (n+1))≠3↔n+1≤400∧∀ t,t<n→F t≤MAXV:=by
 constructor
 ·intro h
  refine⟨?_,fun t ht=>?_⟩
  ·apply Classical.byContradiction
   intro hn
   exact h (checkedE_big (by rw[fvals_len];omega))
  ·apply Classical.byContradiction
   intro hn
   have:=hf t ht
   exact h (checkedE_one (i:=t) (by rw[fvals_len];omega) (by rw[fvals_nth F (by omega)];omega) (by rw[fvals_nth F (by omega)];omega))
 ·rintro⟨h1,h2⟩
  refine checkedE_fine (by rw[fvals_len];exact h1) (fun j hj=>?_)
  rw[fvals_len] at hj
  rw[fvals_nth F hj]
  by_cases e:j=n
  ·subst e;exact .inl hi
  ·exact .inr (h2 j (by omega))
theorem build_made_inf {n m:Nat} {per inc:Int} (hn:n<S+P) (hn':n<m) (hi:F n=INF) (hf:∀ t,t<n→0≤F t∧F t<INF) (hm:∀ t,t<n→F t≤F (t+1)):mbuild F S P I=madeR ⟨fvals F m,per,inc⟩:=by
 have hne:∀ t,t<n→F t≠INF:=fun t ht=>by have:=hf t ht;omega
 rw[mbuild_inf hn hi hne]
 unfold madeR
 rw[normR_inf hn' hi hne]
 by_cases hv:validB ⟨fvals F (n+1),1,0⟩=true
 ·rw[if_pos hv,checkedL_good ((checked_inf hi hf).2 ((valid_inf hi hf hm).1 hv))]
 ·rw[if_neg hv,checkedL_bad]
  rcases checkedE_vals (fvals F (n+1)) with h|h
  ·exact h
  ·exact absurd ((valid_inf hi hf hm).2 ((checked_inf hi hf).1 (by omega))) hv
end
structure IC (F:Nat→Int) (n:Nat):Prop where
  hn:n<400
  hi:∀ t,n≤t→F t=INF
  hb:∀ t,t<n→0≤F t∧F t≤1073741824
  hm:∀ t,F t≤F (t+1)
def cvF (c:Cv) (t:Nat):Int:=atR c.vals c.per c.inc (t:Int)
theorem cvF_low {c:Cv} {t:Nat} (ht:t<c.vals.length):cvF c t=nth c.vals t:=by
 unfold cvF atR
 rw[if_neg (by omega),if_pos (by omega),Int.toNat_natCast]
theorem cvF_vals (c:Cv):c.vals=fvals (cvF c) c.vals.length:=fvals_eq (fun i hi=>(cvF_low hi).symm)
def cvJ (n P t:Nat):Nat:=t - ((t - n) / P+1)*P
theorem cvJ_at {n P t:Nat} (hP:1≤P∧P≤n) (ht:n≤t):n - P≤cvJ n P t∧cvJ n P t<n∧cvJ n P t+((t - n) / P+1)*P=t:=by
 have hd:=Nat.mod_add_div (t - n) P
 have hm:=Nat.mod_lt (t - n) (show 0<P by omega)
 have hmul:((t - n) / P+1)*P=P*((t - n) / P)+P:=by rw[Nat.add_mul,Nat.mul_comm];simp
 unfold cvJ
 omega
theorem cvF_high {c:Cv} {P:Nat} (hc:c.per=P) (hP:1≤P∧P≤c.vals.length) {t:Nat} (ht:c.vals.length≤t) :
  cvF c t=if nth c.vals (cvJ c.vals.length P t)=INF then INF else nth c.vals (cvJ c.vals.length P t)+(((t - c.vals.length) / P+1:Nat):Int)*c.inc:=by
 obtain⟨j1,j2,j3⟩:=cvJ_at hP ht
 unfold cvF atR
 have e1:((t:Int) - (c.vals.length:Int)) / c.per+1=(((t - c.vals.length) / P+1:Nat):Int):=by
  rw[hc,show (t:Int) - (c.vals.length:Int)=((t - c.vals.length:Nat):Int) by omega]
  rfl
 rw[if_neg (by omega),if_neg (by omega),e1,hc]
 have e2:((t:Int) - (((t - c.vals.length) / P+1:Nat):Int)*(P:Int)).toNat=cvJ c.vals.length P t:=by
  rw[← Int.natCast_mul]
  omega
 rw[e2]
 rfl
section
variable {c:Cv}
theorem valid_each (h:validB c=true):∀ i,i<c.vals.length→(nth c.vals i=INF∨(0≤nth c.vals i∧nth c.vals i≤MAXV)):=fun i hi=>((validB_iff.1 h).2.1 i hi).1
theorem valid_mono (h : validB c = true) {i : Nat} : ∀ {j : Nat}, i ≤ j → j < c.vals.length → nth c.vals i ≤ nth c.vals j
  | 0, hij, _ => by obtain rfl : i = 0 := by omega
                    exact Int.le_refl _
  | j + 1, hij, hj => by
    by_cases e:i=j+1
    · subst e;exact Int.le_refl _
    · have a:=valid_mono h (i:=i) (j:=j) (by omega) (by omega)
      have b:=(((validB_iff.1 h).2.1 (j+1) hj).2).resolve_left (by omega)
      rw[show j+1 - 1=j by omega] at b
      omega
theorem valid_fin (h:validB c=true) (hf:nth c.vals (c.vals.length - 1)≠INF):∃ S P:Nat,c.per=P∧c.vals.length=S+P∧FC (cvF c) S P c.inc:=by
 obtain⟨⟨h1,h2,h3,h4,h5,h6,h7⟩,_,h8⟩:=validB_iff.1 h
 rw[if_neg hf] at h8
 obtain⟨P,hP⟩:=Int.eq_ofNat_of_zero_le (show 0≤c.per by omega)
 have hPn:1≤P∧P≤c.vals.length:=by omega
 have hlow:∀ t,t<c.vals.length→0≤cvF c t∧cvF c t≤1073741824:=fun t ht=>by
  rw[cvF_low ht]
  have a:=valid_mono h (i:=t) (j:=c.vals.length - 1) (by omega) (by omega)
  have b:=valid_each h (c.vals.length - 1) (by omega)
  have d:=valid_each h t ht
  unfold INF MAXV at b d
  unfold INF at hf
  omega
 have hfin:∀ j,j<c.vals.length→nth c.vals j≠INF:=fun j hj=>by
  have:=hlow j hj
  rw[cvF_low hj] at this
  unfold INF;omega
 have hg:Grows (cvF c) (c.vals.length - P) P c.inc:=fun t ht=>by
  obtain⟨j1,j2,j3⟩:=cvJ_at hPn (show c.vals.length≤t+P by omega)
  rw[cvF_high hP hPn (show c.vals.length≤t+P by omega),if_neg (hfin _ j2)]
  by_cases hn:t<c.vals.length
  ·have e:(t+P - c.vals.length) / P=0:=Nat.div_eq_of_lt (by omega)
   rw[e] at j3 ⊢
   have ej:cvJ c.vals.length P (t+P)=t:=by omega
   rw[ej,cvF_low hn];simp
  ·obtain⟨i1,i2,i3⟩:=cvJ_at hPn (show c.vals.length≤t by omega)
   rw[cvF_high hP hPn (show c.vals.length≤t by omega),if_neg (hfin _ i2)]
   have e:(t+P - c.vals.length) / P=(t - c.vals.length) / P+1:=by
    rw[show t+P - c.vals.length=t - c.vals.length+P by omega,Nat.add_div_right _ (by omega)]
   rw[e] at j3 ⊢
   have ej:cvJ c.vals.length P (t+P)=cvJ c.vals.length P t:=by
    have:((t - c.vals.length) / P+1+1)*P=((t - c.vals.length) / P+1)*P+P:=by rw[Nat.add_mul _ 1 P];simp
    omega
   rw[ej]
   have e3:(((t - c.vals.length) / P+1+1:Nat):Int)*c.inc=(((t - c.vals.length) / P+1:Nat):Int)*c.inc+c.inc:=by
    rw[Int.natCast_add _ 1,Int.add_mul];simp
   rw[e3];omega
 have hstep:∀ t,t+1≤c.vals.length→cvF c t≤cvF c (t+1):=fun t ht=>by
  by_cases e:t+1<c.vals.length
  ·rw[cvF_low e,cvF_low (show t<c.vals.length by omega)]
   exact valid_mono h (by omega) e
  ·have g:=hg (c.vals.length - P) (Nat.le_refl _)
   rw[show c.vals.length - P+P=t+1 by omega,cvF_low (show c.vals.length - P<c.vals.length by omega)] at g
   rw[g,cvF_low (show t<c.vals.length by omega)]
   rw[hP,Int.toNat_natCast,show c.vals.length - 1=t by omega] at h8
   exact h8
 refine⟨c.vals.length - P,P,hP,by omega,by omega,by omega,by unfold MAXV at h7;omega,hg,?_,(hlow 0 (by omega)).1,fun t ht=>(hlow t (by omega)).2⟩
 intro t
 induction t using Nat.strongRecOn with
 | _ t ih =>
  by_cases ht:t+1≤c.vals.length
  ·exact hstep t ht
  ·have a:=ih (t - P) (by omega)
   have g1:=hg (t - P) (by omega)
   have g2:=hg (t - P+1) (by omega)
   rw[show t - P+P=t by omega] at g1
   rw[show t - P+1+P=t+1 by omega] at g2
   omega
theorem valid_ic (h:validB c=true) (hf:nth c.vals (c.vals.length - 1)=INF):c.per=1∧c.inc=0∧∃ n:Nat,n<c.vals.length∧infL c.vals=n∧IC (cvF c) n:=by
 obtain⟨⟨h1,h2,h3,h4,h5,h6,h7⟩,_,h8⟩:=validB_iff.1 h
 rw[if_pos hf] at h8
 refine⟨h8.1,h8.2,?_⟩
 unfold infL
 rcases findFrom_cases (fun i=>nth c.vals i == INF) c.vals.length 0 with ⟨n,n1,n2,n3,n4,n5⟩|⟨_,n2⟩
 ·rw[n3]
  have hnI:nth c.vals n=INF:=by simpa using n4
  have hlow:∀ t,t<n→0≤nth c.vals t∧nth c.vals t≤1073741824:=fun t ht=>by
   have a:=valid_each h t (by omega)
   have b:=n5 t (by omega) ht
   unfold MAXV at a
   rcases a with a|a
   ·rw[a] at b;simp at b
   ·exact a
  have hhi:∀ t,n≤t→cvF c t=INF:=fun t ht=>by
   by_cases e:t<c.vals.length
   ·rw[cvF_low e]
    have a:=valid_mono h ht e
    have b:=valid_each h t e
    rw[hnI] at a
    unfold MAXV INF at b
    unfold INF at a ⊢
    omega
   ·obtain⟨j1,j2,j3⟩:=cvJ_at (n:=c.vals.length) (P:=1) (t:=t) (by omega) (by omega)
    have ej:cvJ c.vals.length 1 t=c.vals.length - 1:=by omega
    rw[cvF_high (P:=1) (by rw[h8.1];rfl) (by omega) (by omega),ej,if_pos hf]
  refine⟨n,by omega,rfl,by omega,hhi,fun t ht=>by rw[cvF_low (by omega)];exact hlow t ht,fun t=>?_⟩
  by_cases ht:t+1<n
  ·rw[cvF_low (show t+1<c.vals.length by omega),cvF_low (show t<c.vals.length by omega)]
   exact valid_mono h (by omega) (by omega)
  ·rw[hhi (t+1) (by omega)]
   by_cases e:t<n
   ·rw[cvF_low (by omega)]
    have:=hlow t e
    unfold INF;omega
   ·rw[hhi t (by omega)];exact Int.le_refl _
 ·have:=n2 (c.vals.length - 1) (by omega) (by omega)
  rw[hf] at this;simp at this
def finB (c:Cv):Bool:=nth c.vals (c.vals.length - 1) != INF
theorem cv_eq {S P:Nat} (hP:c.per=P) (hn:c.vals.length=S+P):c=⟨fvals (cvF c) (S+P),P,c.inc⟩:=by
 have:=cvF_vals c
 rw[hn] at this
 cases c
 simp only at *
 subst hP
 rw[← this]
theorem cv_eqI {n:Nat} (hP:c.per=1) (hI:c.inc=0) (hn:n<c.vals.length):c=⟨fvals (cvF c) c.vals.length,1,0⟩:=by
 have:=cvF_vals c
 cases c
 simp only at *
 subst hP;subst hI
 rw[← this]
end
theorem cvF_fc {F:Nat→Int} {S P:Nat} {I:Int} (h:FC F S P I):cvF ⟨fvals F (S+P),P,I⟩=F:=funext fun t=>h.atR t
theorem cvF_ic {F:Nat→Int} {n m:Nat} (h:IC F n) (hm:n<m):cvF ⟨fvals F m,1,0⟩=F:=funext fun t=>by
 by_cases ht:t<m
 ·rw[cvF_low (by rw[fvals_len];exact ht)]
  exact fvals_nth F ht
 ·have hl:(fvals F m).length=m:=fvals_len F m
  rw[cvF_high (c:=⟨fvals F m,1,0⟩) (P:=1) rfl (by rw[hl];omega) (by rw[hl];omega)]
  obtain⟨j1,j2,j3⟩:=cvJ_at (n:=m) (P:=1) (t:=t) (by omega) (by omega)
  rw[hl]
  dsimp only
  rw[show cvJ m 1 t=m - 1 by omega,fvals_nth F (by omega),h.hi _ (by omega),if_pos rfl,h.hi t (by omega)]
theorem IC.fin {F:Nat→Int} {n t:Nat} (h:IC F n) (ht:t<n):F t≠INF:=by have:=h.hb t ht;unfold INF;omega
theorem IC.valid {F:Nat→Int} {n m:Nat} (h:IC F n) (hm:n<m) (hm':m≤400):validB ⟨fvals F m,1,0⟩=true:=by
 rw[validB_iff]
 dsimp only
 rw[fvals_len,fvals_nth F (show m - 1<m by omega),if_pos (h.hi _ (by omega))]
 refine⟨⟨by omega,hm',by decide,by decide,by omega,by decide,by unfold MAXV;omega⟩,fun i hi=>?_,rfl,rfl⟩
 rw[fvals_nth F hi]
 refine⟨?_,?_⟩
 ·by_cases e:i<n
  ·have:=h.hb i e
   right;unfold MAXV;exact this
  ·exact .inl (h.hi i (by omega))
 ·by_cases e:i=0
  ·exact .inl e
  ·right
   rw[fvals_nth F (by omega)]
   have:=h.hm (i - 1)
   rwa [show i - 1+1=i by omega] at this
theorem FC.valid' {F:Nat→Int} {S P:Nat} {I:Int} (h:FC F S P I):validB ⟨fvals F (S+P),P,I⟩=true:=by
 have hP:=h.hP
 have hn:=h.hn
 have hI:=h.hI
 rw[validB_iff]
 dsimp only
 rw[fvals_len]
 refine⟨⟨by omega,by omega,by omega,by omega,by omega,by omega,by unfold MAXV;omega⟩,fun i hi=>?_,?_⟩
 ·rw[fvals_nth F hi]
  have a:=h.nonneg i
  have b:=h.hb i hi
  refine⟨.inr ⟨a,by unfold MAXV;omega⟩,?_⟩
  by_cases h0:i=0
  ·exact .inl h0
  ·right
   rw[fvals_nth F (by omega)]
   exact h.mono (show i - 1≤i by omega)
 ·rw[fvals_nth F (by omega),if_neg (h.fin (by omega)),Int.toNat_natCast,fvals_nth F (by omega)]
  have h1:=h.hg (S+P - P) (by omega)
  have h2:=h.mono (show S+P - 1≤S+P - P+P by omega)
  omega
theorem FC.norm {F:Nat→Int} {S P:Nat} {I:Int} (h:FC F S P I):∃ (s p:Nat) (q:Int),normR ⟨fvals F (S+P),P,I⟩=⟨fvals F (s+p),p,q⟩∧FC F s p q∧s≤S∧p≤P∧NF F S P I p s∧q=I*p / P:=by
 have hP:=h.hP
 have hI:=h.hI
 obtain⟨p,s,h1,h2,h3,h4⟩:=normR_nf (by omega) hI.1 h.hg (fun t ht=>h.fin ht)
 have hp:=h1.least.1
 have hq0:0≤I*(p:Int) / P:=Int.ediv_nonneg (Int.mul_nonneg hI.1 (by omega)) (by omega)
 have hq:I*(p:Int) / P≤I:=by
  have h3:I*(p:Int)≤I*(P:Int):=Int.mul_le_mul_of_nonneg_left (by omega) hI.1
  have h4:I*(p:Int) / P≤I*(P:Int) / P:=Int.ediv_le_ediv (by omega) h3
  rw[Int.mul_ediv_cancel _ (by omega)] at h4
  exact h4
 have hn:=h.hn
 exact⟨s,p,I*p / P,h4,⟨by omega,by omega,⟨hq0,by omega⟩,h1.starts.1,h.hm,h.h0,fun t ht=>h.hb t (by omega)⟩,h3,h2,h1,rfl⟩
theorem IC.norm {F:Nat→Int} {n m:Nat} (h:IC F n) (hm:n<m):normR ⟨fvals F m,1,0⟩=⟨fvals F (n+1),1,0⟩ :=
 normR_inf hm (h.hi n (Nat.le_refl _)) (fun t ht=>h.fin ht)
theorem valid_cases {c:Cv} (h:validB c=true):(∃ S P:Nat,c=⟨fvals (cvF c) (S+P),P,c.inc⟩∧c.vals.length=S+P∧c.per=P∧FC (cvF c) S P c.inc∧finB c=true)∨(∃ n:Nat,c=⟨fvals (cvF c) c.vals.length,1,0⟩∧n<c.vals.length∧c.per=1∧c.inc=0∧infL c.vals=n∧IC (cvF c) n∧finB c=false):=by
 by_cases hf:nth c.vals (c.vals.length - 1)=INF
 ·obtain⟨h1,h2,n,h3,h4,h5⟩:=valid_ic h hf
  exact .inr ⟨n,cv_eqI h1 h2 h3,h3,h1,h2,h4,h5,by unfold finB;rw[hf];simp⟩
 ·obtain⟨S,P,h1,h2,h3⟩:=valid_fin h hf
  exact .inl ⟨S,P,cv_eq h1 h2,h2,h1,h3,by unfold finB;simp[hf]⟩
theorem norm_valid {c:Cv} (h:validB c=true):validB (normR c)=true∧cvF (normR c)=cvF c∧(normR c).vals.length≤c.vals.length∧finB (normR c)=finB c∧(∀ S P:Nat,c.vals.length=S+P→c.per=P→∃ s p:Nat,(normR c).vals.length=s+p∧(normR c).per=p∧s≤S∧p≤P):=by
 have hfb:∀ {a b:Cv},validB a=true→validB b=true→cvF a=cvF b→finB a=finB b:=fun {a b} ha hb e=>by
  rcases valid_cases ha with ⟨S,P,_,_,_,hfc,f1⟩|⟨n,_,_,_,_,_,hic,f1⟩
  ·rcases valid_cases hb with ⟨_,_,_,_,_,_,f2⟩|⟨n,_,_,_,_,_,hic,f2⟩
   ·rw[f1,f2]
   ·rw[e] at hfc
    have a1:=hic.hi (n+S+P) (by omega)
    have a2:=hfc.bound n
    have a3:=hic.hi n (Nat.le_refl _)
    have:=hic.hn
    unfold INF at a3;omega
  ·rcases valid_cases hb with ⟨S,P,_,_,_,hfc,f2⟩|⟨_,_,_,_,_,_,_,f2⟩
   ·rw[← e] at hfc
    have a2:=hfc.bound n
    have a3:=hic.hi n (Nat.le_refl _)
    have:=hic.hn
    unfold INF at a3;omega
   ·rw[f1,f2]
 rcases valid_cases h with ⟨S,P,e,hl,hp,hfc,_⟩|⟨n,e,hl,hp,hI,_,hic,_⟩
 ·obtain⟨s,p,q,h1,h2,h3,h4,_⟩:=hfc.norm
  have e2:normR c=⟨fvals (cvF c) (s+p),p,q⟩:=by rw[← h1,← e]
  have e3:cvF (normR c)=cvF c:=by rw[e2];exact cvF_fc h2
  have hv:validB (normR c)=true:=by rw[e2];exact h2.valid'
  have hp1:=h2.hP
  refine⟨hv,e3,by rw[e2,hl,fvals_len];omega,hfb hv h e3,fun S' P' hl' hp'=>⟨s,p,by rw[e2];exact fvals_len _ _,by rw[e2],by omega,by omega⟩⟩
 ·have h1:=hic.norm hl
  have e2:normR c=⟨fvals (cvF c) (n+1),1,0⟩:=by rw[← h1,← e]
  have e3:cvF (normR c)=cvF c:=by rw[e2];exact cvF_ic hic (by omega)
  have hn:=hic.hn
  have hv:validB (normR c)=true:=by rw[e2];exact hic.valid (by omega) (by omega)
  refine⟨hv,e3,by rw[e2,fvals_len];omega,hfb hv h e3,fun S' P' hl' hp'=>⟨n,1,by rw[e2];exact fvals_len _ _,by rw[e2];rfl,by omega,by omega⟩⟩
theorem cvF_bound {c:Cv} (h:validB c=true) (t:Nat):0≤cvF c t∧(cvF c t=INF∨cvF c t≤1073741824*((t:Int)+2)):=by
 rcases valid_cases h with ⟨S,P,_,_,_,hfc,_⟩|⟨n,_,_,_,_,_,hic,_⟩
 ·exact⟨hfc.nonneg t,.inr (hfc.bound t)⟩
 ·by_cases ht:t<n
  ·have:=hic.hb t ht
   exact⟨this.1,.inr (by omega)⟩
  ·have:=hic.hi t (by omega)
   exact⟨by rw[this];unfold INF;omega,.inl this⟩
theorem cvF_mono {c:Cv} (h:validB c=true) (t:Nat):cvF c t≤cvF c (t+1):=by
 rcases valid_cases h with ⟨S,P,_,_,_,hfc,_⟩|⟨n,_,_,_,_,_,hic,_⟩
 ·exact hfc.hm t
 ·exact hic.hm t
theorem valid_range {c:Cv} (h:validB c=true):(∀ x∈c.vals,-2305843009213693952≤x∧x≤4611686018427387904)∧1≤c.vals.length∧c.vals.length≤400∧1≤c.per∧c.per≤120∧c.per≤c.vals.length∧0≤c.inc∧c.inc≤1073741824:=by
 obtain⟨⟨h1,h2,h3,h4,h5,h6,h7⟩,_,_⟩:=validB_iff.1 h
 refine⟨all_of_nth (fun j hj=>?_),h1,h2,h3,h4,h5,h6,by unfold MAXV at h7;omega⟩
 have:=valid_each h j hj
 unfold INF MAXV at this
 omega
def isInf (c:Cv) (t:Nat):Prop:=finB c=false∧cvF c t=INF
instance (c:Cv) (t:Nat):Decidable (isInf c t):=by unfold isInf;infer_instance
theorem isInf_iff {c:Cv} (h:validB c=true) {t:Nat} (ht:t≤1000000000):isInf c t↔cvF c t=INF:=by
 refine⟨fun h=>h.2,fun h0=>⟨?_,h0⟩⟩
 rcases valid_cases h with ⟨S,P,_,_,_,hfc,_⟩|⟨n,_,_,_,_,_,hic,hf⟩
 ·have:=hfc.bound t
  unfold INF at h0;omega
 ·exact hf
structure RepF (F:Nat→Int) (S P:Nat) (I:Int):Prop where
  hP:0<P
  hI:0≤I
  hg:Grows F S P I
  hm:∀ t,F t≤F (t+1)
  h0:0≤F 0
  hf:∀ t,t<S+P→F t<INF
structure RepI (F:Nat→Int) (n m:Nat):Prop where
  hn:n<m
  hi:∀ t,n≤t→F t=INF
  hf:∀ t,t<n→0≤F t∧F t<INF
  hm:∀ t,F t≤F (t+1)
structure Nrm (c:Cv):Prop where
  valid:validB c=true
  norm:normR c=c
theorem RepF.ne {F:Nat→Int} {S P:Nat} {I:Int} (h:RepF F S P I) {t:Nat} (ht:t<S+P):F t≠INF:=by have:=h.hf t ht;omega
theorem RepF.res {F:Nat→Int} {S P:Nat} {I:Int} (h:RepF F S P I):mbuild F S P I=(zcv,3)∨∃ c,mbuild F S P I=(c,0)∧Nrm c∧cvF c=F∧finB c=true:=by
 rw[mbuild_fin (fun t ht=>h.ne ht)]
 obtain⟨p,s,hnf,h1,h2,e⟩:=finL_nf h.hP h.hg (fun t ht=>h.ne ht)
 rw[e]
 unfold nfC
 by_cases h3:nfE F p s (I*p / P)=3
 ·rw[if_pos h3];exact .inl rfl
 ·rw[if_neg h3]
  right
  have h4:¬ (120<p∨MAXV<I*p / P∨400<s+p∨((List.range (s+p)).any fun i=>decide (F i > MAXV))=true):=fun hh=>h3 (if_pos hh)
  have hp:=hnf.least.1
  have hP:=h.hP
  have hI:=h.hI
  have hfc:FC F s p (I*p / P):=by
   refine⟨by omega,by omega,⟨Int.ediv_nonneg (Int.mul_nonneg hI (by omega)) (by omega),?_⟩,hnf.starts.1,h.hm,h.h0,fun t ht=>?_⟩
   ·have:¬ MAXV<I*p / P:=fun hh=>h4 (.inr (.inl hh))
    unfold MAXV at this;omega
   ·apply Classical.byContradiction
    intro hh
    refine h4 (.inr (.inr (.inr ?_)))
    rw[List.any_eq_true]
    exact⟨t,List.mem_range.2 ht,decide_eq_true (by unfold MAXV;omega)⟩
  have hv:=hfc.valid'
  refine⟨_,rfl,⟨hv,?_⟩,cvF_fc hfc,?_⟩
  ·obtain⟨s',p',q',e',_,_,_,hnf',hq'⟩:=hfc.norm
   obtain⟨e1,e2,e3⟩:=nf_same h.hP (by omega) h.hg hfc.hg hnf hnf'
   rw[e',hq',← e3,← e1,← e2]
  ·rcases valid_cases hv with ⟨_,_,_,_,_,_,f1⟩|⟨n,_,_,_,_,_,hic,_⟩
   ·exact f1
   ·have:=hic.hi (n+s+p) (by omega)
    rw[cvF_fc hfc] at this
    have h5:=hic.hi n (Nat.le_refl _)
    rw[cvF_fc hfc] at h5
    have h6:=hfc.bound n
    have:=hic.hn
    unfold INF at h5;omega
theorem RepI.ne {F:Nat→Int} {n m:Nat} (h:RepI F n m) {t:Nat} (ht:t<n):F t≠INF:=by have:=h.hf t ht;omega
theorem RepI.res {F:Nat→Int} {n S P:Nat} {I:Int} (h:RepI F n (S+P)):mbuild F S P I=(zcv,3)∨∃ c,mbuild F S P I=(c,0)∧Nrm c∧cvF c=F∧finB c=false:=by
 rw[mbuild_inf h.hn (h.hi n (Nat.le_refl _)) (fun t ht=>h.ne ht)]
 rcases checkedE_vals (fvals F (n+1)) with hc|hc
 ·rw[checkedL_bad hc];exact .inl rfl
 ·rw[checkedL_good (by omega)]
  right
  obtain⟨h1,h2⟩:=(checked_inf (h.hi n (Nat.le_refl _)) h.hf).1 (by omega)
  have hic:IC F n:=⟨by omega,h.hi,fun t ht=>by have:=h.hf t ht;have:=h2 t ht;unfold MAXV at this;omega,h.hm⟩
  have hv:=hic.valid (show n<n+1 by omega) h1
  refine⟨_,rfl,⟨hv,hic.norm (by omega)⟩,cvF_ic hic (by omega),?_⟩
  unfold finB
  dsimp only
  rw[fvals_len,show n+1 - 1=n by omega,fvals_nth F (by omega),h.hi n (Nat.le_refl _)]
  simp
theorem norm_nrm {c:Cv} (h:validB c=true):Nrm (normR c):=by
 refine⟨(norm_valid h).1,?_⟩
 rcases valid_cases h with ⟨S,P,e,hl,hp,hfc,_⟩|⟨n,e,hl,hp,hI,_,hic,_⟩
 ·obtain⟨s,p,q,h1,h2,h3,h4,h5,h6⟩:=hfc.norm
  have e2:normR c=⟨fvals (cvF c) (s+p),p,q⟩:=by rw[← h1,← e]
  obtain⟨s',p',q',g1,g2,g3,g4,g5,g6⟩:=h2.norm
  have hP:=hfc.hP
  have hp2:=h2.hP
  obtain⟨e3,e4,e5⟩:=nf_same (by omega) (by omega) hfc.hg h2.hg h5 g5
  rw[e2,g1,g6,← e5,← e3,← e4,← h6]
 ·have h1:=hic.norm hl
  have e2:normR c=⟨fvals (cvF c) (n+1),1,0⟩:=by rw[← h1,← e]
  rw[e2];exact hic.norm (by omega)
def stN (c:Cv):Nat:=c.vals.length - c.per.toNat
theorem norm_build {c:Cv} (h:validB c=true):mbuild (cvF c) (stN c) c.per.toNat c.inc=(normR c,0):=by
 have hn:=(norm_nrm h).valid
 have hm:madeR c=(normR c,0):=by unfold madeR;rw[if_pos hn]
 rcases valid_cases h with ⟨S,P,e,hl,hp,hfc,_⟩|⟨n,e,hl,hp,hI,_,hic,_⟩
 ·have hP:=hfc.hP
  have hs:stN c=S:=by unfold stN;rw[hl,hp,Int.toNat_natCast];omega
  have hf:∀ t,t<S+P→cvF c t<INF:=fun t ht=>by have:=hfc.hb t ht;unfold INF;omega
  rw[hs,hp,Int.toNat_natCast,build_made_fin (by omega) hfc.hI.1 hfc.hg (by omega) hfc.hI.1 hfc.hg hfc.hm hfc.h0 hf hf,← e,hm]
 ·have hr:=valid_range h
  have hs:stN c+c.per.toNat=c.vals.length:=by unfold stN;omega
  rw[build_made_inf (n:=n) (m:=c.vals.length) (per:=1) (inc:=0) (by rw[hs];exact hl) hl (hic.hi n (Nat.le_refl _)) (fun t ht=>by have:=hic.hb t ht;unfold INF;omega) (fun t _=>hic.hm t),← e,hm]
def normC (c:Cv):Cv × Int:=if validB c=true then (normR c,0) else (zcv,1)
def lcmC (a b:Cv):Nat:=lcmN a.per.toNat b.per.toNat
def gainC (c:Cv) (L:Nat):Int:=(L:Int) / c.per*c.inc
def plusF (a b:Cv) (t:Nat):Int:=if isInf a t∨isInf b t then INF else cvF a t+cvF b t
theorem grows_gain {F:Nat→Int} {S P L:Nat} {I:Int} (hP:1≤P) (hg:Grows F S P I) (hL:L % P=0):Grows F S L ((L:Int) / (P:Int)*I):=fun t ht=>by
 have h1:=hg.mul (L / P) t ht
 have h2:L / P*P=L:=Nat.div_mul_cancel (Nat.dvd_of_mod_eq_zero hL)
 rw[h2] at h1
 rw[h1];rfl
theorem lcm_mod {a b:Nat} (ha:0<a) (hb:0<b):lcmN a b % a=0∧lcmN a b % b=0∧0<lcmN a b:=by
 obtain⟨h1,h2,_,h4⟩:=lcmN_facts ha hb
 refine⟨?_,?_,h4⟩
 ·rw[h1];exact Nat.mul_mod_left _ _
 ·rw[h2];exact Nat.mul_mod_left _ _
theorem isInf_ic {c:Cv} {n:Nat} (hic:IC (cvF c) n) (hf:finB c=false) (t:Nat):isInf c t↔n≤t:=by
 constructor
 ·intro h
  apply Classical.byContradiction
  intro hh
  exact hic.fin (show t<n by omega) h.2
 ·intro h
  exact⟨hf,hic.hi t h⟩
theorem isInf_fin {c:Cv} (hf:finB c=true) (t:Nat):¬ isInf c t:=fun h=>by have:=h.1;rw[hf] at this;cases this
section
variable {a b:Cv}
theorem plus_fin (ha:validB a=true) (hb:validB b=true) (fa:finB a=true) (fb:finB b=true) (hl:lcmC a b≤10000) {S:Nat} (hS:stN a≤S∧stN b≤S) (hS2:S≤10000):RepF (plusF a b) S (lcmC a b) (gainC a (lcmC a b)+gainC b (lcmC a b)):=by
 rcases valid_cases ha with ⟨S1,P1,_,l1,p1,fc1,_⟩|⟨_,_,_,_,_,_,_,f⟩
 ·rcases valid_cases hb with ⟨S2,P2,_,l2,p2,fc2,_⟩|⟨_,_,_,_,_,_,_,f⟩
  ·have hP1:=fc1.hP
   have hP2:=fc2.hP
   have hI1:=fc1.hI
   have hI2:=fc2.hI
   unfold stN at hS
   unfold lcmC gainC at *
   rw[l1,p1,Int.toNat_natCast,l2,p2,Int.toNat_natCast] at hS
   rw[p1,p2,Int.toNat_natCast,Int.toNat_natCast] at hl ⊢
   obtain⟨m1,m2,m3⟩:=lcm_mod (a:=P1) (b:=P2) (by omega) (by omega)
   have g1:=grows_gain (L:=lcmN P1 P2) (by omega) (fc1.hg.mono (show S1≤S by omega)) m1
   have g2:=grows_gain (L:=lcmN P1 P2) (by omega) (fc2.hg.mono (show S2≤S by omega)) m2
   have hpl:∀ t,plusF a b t=cvF a t+cvF b t:=fun t=>if_neg (fun h=>h.elim (isInf_fin fa t) (isInf_fin fb t))
   refine⟨m3,?_,fun t ht=>by rw[hpl,hpl,g1 t ht,g2 t ht];omega,fun t=>by rw[hpl,hpl];have:=fc1.hm t;have:=fc2.hm t;omega,by rw[hpl];have:=fc1.h0;have:=fc2.h0;omega,fun t ht=>?_⟩
   ·have a1:0≤(lcmN P1 P2:Int) / (P1:Int)*a.inc:=Int.mul_nonneg (Int.ediv_nonneg (by omega) (by omega)) hI1.1
    have a2:0≤(lcmN P1 P2:Int) / (P2:Int)*b.inc:=Int.mul_nonneg (Int.ediv_nonneg (by omega) (by omega)) hI2.1
    omega
   ·rw[hpl]
    have:=fc1.bound t
    have:=fc2.bound t
    unfold INF;omega
  ·rw[fb] at f;cases f
 ·rw[fa] at f;cases f
theorem inf_at (ha:validB a=true) (fa:finB a=false):∃ n,n≤stN a∧(∀ t,isInf a t↔n≤t)∧IC (cvF a) n:=by
 rcases valid_cases ha with ⟨_,_,_,_,_,_,f⟩|⟨n,_,h1,h2,_,_,hic,f⟩
 ·rw[fa] at f;cases f
 ·refine⟨n,?_,isInf_ic hic f,hic⟩
  unfold stN
  rw[h2]
  have:(1:Int).toNat=1:=rfl
  omega
theorem fin_part (ha:validB a=true) {t:Nat} (h:¬ isInf a t) (ht:t≤1000000000):0≤cvF a t∧cvF a t≤1073741824*((t:Int)+2):=by
 have h1:=cvF_bound ha t
 refine⟨h1.1,h1.2.resolve_left (fun e=>h ((isInf_iff ha ht).2 e))⟩
theorem isInf_mono (ha:validB a=true) {s t:Nat} (hst:s≤t) (h:isInf a s):isInf a t:=by
 obtain⟨n,_,h1,_⟩:=inf_at ha h.1
 have:=(h1 s).1 h
 exact(h1 t).2 (by omega)
theorem plus_inf (ha:validB a=true) (hb:validB b=true) (hab:¬ (finB a=true∧finB b=true)) {m:Nat} (hm:stN a<m∧stN b<m):∃ n,RepI (plusF a b) n m:=by
 have key : ∀ n : Nat, n < m → n ≤ 400 → (∀ t, (isInf a t ∨ isInf b t) ↔ n ≤ t) → RepI (plusF a b) n m := fun n hn hn4 h => by
  refine⟨hn,fun t ht=>if_pos ((h t).2 ht),fun t ht=>?_,fun t=>?_⟩
  ·have hno:¬ (isInf a t∨isInf b t):=fun hh=>by have:=(h t).1 hh;omega
   have e:plusF a b t=cvF a t+cvF b t:=if_neg hno
   have h1:=fin_part ha (fun x=>hno (.inl x)) (show t≤1000000000 by omega)
   have h2:=fin_part hb (fun x=>hno (.inr x)) (show t≤1000000000 by omega)
   rw[e]
   unfold INF;omega
  ·by_cases h1:isInf a (t+1)∨isInf b (t+1)
   ·rw[show plusF a b (t+1)=INF from if_pos h1]
    by_cases h2:isInf a t∨isInf b t
    ·rw[show plusF a b t=INF from if_pos h2];exact Int.le_refl _
    ·have e:plusF a b t=cvF a t+cvF b t:=if_neg h2
     have ht:t<n:=by
      apply Classical.byContradiction
      intro hh;exact h2 ((h t).2 (by omega))
     have a1:=fin_part ha (fun x=>h2 (.inl x)) (show t≤1000000000 by omega)
     have a2:=fin_part hb (fun x=>h2 (.inr x)) (show t≤1000000000 by omega)
     rw[e];unfold INF;omega
   ·have h2:¬ (isInf a t∨isInf b t):=fun hh=>h1 (hh.imp (isInf_mono ha (by omega)) (isInf_mono hb (by omega)))
    rw[show plusF a b (t+1)=_ from if_neg h1,show plusF a b t=_ from if_neg h2]
    have:=cvF_mono ha t
    have:=cvF_mono hb t
    omega
 by_cases fa:finB a=true
 ·have fb:finB b=false:=by simpa using fun h=>hab ⟨fa,h⟩
  obtain⟨n,h1,h2,h3⟩:=inf_at hb fb
  have:=h3.hn
  exact⟨n,key n (by omega) (by omega) (fun t=>by
   rw[h2 t]
   exact⟨fun h=>h.elim (fun x=>absurd x (isInf_fin fa t)) id,.inr⟩)⟩
 ·have fa:finB a=false:=by simpa using fa
  obtain⟨n,h1,h2,h3⟩:=inf_at ha fa
  have hn:=h3.hn
  by_cases fb:finB b=true
  ·exact⟨n,key n (by omega) (by omega) (fun t=>by
    rw[h2 t]
    exact⟨fun h=>h.elim id (fun x=>absurd x (isInf_fin fb t)),.inl⟩)⟩
  ·have fb:finB b=false:=by simpa using fb
   obtain⟨n',h1',h2',h3'⟩:=inf_at hb fb
   exact⟨min n n',key _ (by omega) (by omega) (fun t=>by rw[h2 t,h2' t];omega)⟩
end
def sumC (f g:Cv):Cv × Int :=
  if validB f=false∨validB g=false then (zcv,1)
  else if 120<lcmC (normR f) (normR g) then (zcv,3)
  else mbuild (plusF (normR f) (normR g)) (max (stN (normR f)) (stN (normR g))) (lcmC (normR f) (normR g)) (gainC (normR f) (lcmC (normR f) (normR g))+gainC (normR g) (lcmC (normR f) (normR g)))
theorem stN_lt {c:Cv} (h:validB c=true):stN c<c.vals.length∧stN c+c.per.toNat=c.vals.length∧c.vals.length≤400:=by
 obtain⟨_,h1,h2,h3,h4,h5,_⟩:=valid_range h
 unfold stN;omega
theorem sum_res {f g:Cv} (hf:validB f=true) (hg:validB g=true):sumC f g=(zcv,3)∨∃ c,sumC f g=(c,0)∧Nrm c∧cvF c=plusF (normR f) (normR g)∧(finB f=true→finB g=true→finB c=true):=by
 have hnf:=norm_nrm hf
 have hng:=norm_nrm hg
 unfold sumC
 rw[if_neg (by rw[hf,hg];simp)]
 by_cases hl:120<lcmC (normR f) (normR g)
 ·rw[if_pos hl];exact .inl rfl
 ·rw[if_neg hl]
  have s1:=stN_lt hnf.valid
  have s2:=stN_lt hng.valid
  by_cases hfin:finB (normR f)=true∧finB (normR g)=true
  ·rcases(plus_fin hnf.valid hng.valid hfin.1 hfin.2 (by omega) ⟨Nat.le_max_left _ _,Nat.le_max_right _ _⟩ (by omega)).res with h|⟨c,h1,h2,h3,h4⟩
   ·exact .inl h
   ·exact .inr ⟨c,h1,h2,h3,fun _ _=>h4⟩
  ·have hl0:0<lcmC (normR f) (normR g):=by
    obtain⟨_,_,_,q1,_⟩:=valid_range hnf.valid
    obtain⟨_,_,_,q2,_⟩:=valid_range hng.valid
    exact(lcm_mod (by omega) (by omega)).2.2
   obtain⟨n,hn⟩:=plus_inf hnf.valid hng.valid hfin (m:=max (stN (normR f)) (stN (normR g))+lcmC (normR f) (normR g)) (by omega)
   rcases hn.res (I:=gainC (normR f) (lcmC (normR f) (normR g))+gainC (normR g) (lcmC (normR f) (normR g))) with h|⟨c,h1,h2,h3,h4⟩
   ·exact .inl h
   ·refine .inr ⟨c,h1,h2,h3,fun q1 q2=>?_⟩
    exact absurd ⟨by rw[(norm_valid hf).2.2.2.1];exact q1,by rw[(norm_valid hg).2.2.2.1];exact q2⟩ hfin
def raiseF (a:Cv) (k:Int) (t:Nat):Int:=if t=0 then 0 else if isInf a t then INF else cvF a t+k
def raiseC (f:Cv) (k:Int):Cv × Int :=
  if validB f=false then (zcv,1) else if k<0∨MAXV<k then (zcv,2)
  else mbuild (raiseF (normR f) k) (max 1 (stN (normR f))) (normR f).per.toNat (normR f).inc
def zeroC:Cv:=⟨[0],1,0⟩
def totalGo (s:Cv):List Cv→Cv × Int
  | []=>(s,0)
  | f::l=>if (sumC s f).2≠0 then (zcv,(sumC s f).2) else totalGo (sumC s f).1 l
def totalC (l:List Cv):Cv × Int:=totalGo zeroC l
theorem zero_nrm:Nrm zeroC:=⟨by kernel_rfl,by kernel_rfl⟩
theorem total_res:∀ (l:List Cv) (s:Cv),validB s=true→Nrm s→(∀ f∈l,validB f=true)→totalGo s l=(zcv,3)∨∃ c,totalGo s l=(c,0)∧Nrm c∧(finB s=true→(∀ f∈l,finB f=true)→finB c=true)
 | [],s,hv,hn,_=>.inr ⟨s,rfl,hn,fun h _=>h⟩
 | f :: l, s, hv, hn, hl => by
  simp only[totalGo]
  rcases sum_res hv (hl f (by simp)) with h|⟨c,h1,h2,h3,h4⟩
  ·rw[h,if_pos (by decide)];exact .inl rfl
  ·rw[h1,if_neg (by simp)]
   rcases total_res l c h2.valid h2 (fun f hf=>hl f (by simp[hf])) with h|⟨c',e1,e2,e3⟩
   ·exact .inl h
   ·exact .inr ⟨c',e1,e2,fun q1 q2=>e3 (h4 q1 (q2 f (by simp))) (fun f hf=>q2 f (by simp[hf]))⟩
def flatF (k:Int) (t:Nat):Int:=if t=0 then 0 else k
theorem flatF_bound {k:Int} (hk:0≤k∧k≤1073741824) (t:Nat):0≤flatF k t∧flatF k t≤1000000000000000:=by unfold flatF;split<;>omega
def flatC (k:Int):Cv × Int:=mbuild (flatF k) 1 1 0
theorem flat_zero:flatC 0=(zeroC,0):=by kernel_rfl
structure CvS where
  a:Option Addr
  cap:Nat
  cv:Cv
instance instCvS:Inhabited CvS:=⟨⟨none,0,zcv⟩⟩
def encC (s:CvS):List Value:=[.slice s.a s.cv.vals.length s.cap,.int .i64 s.cv.per,.int .i64 s.cv.inc]
theorem drop_map_cons {ls:List CvS} {i:Nat} (h:i<ls.length):(ls.map CvS.cv).drop i=(nth ls i).cv::(ls.map CvS.cv).drop (i+1):=by
 rw[List.drop_eq_getElem_cons (by simpa using h),List.getElem_map,← nth_eq h]
def lastV (v:List Int) (t:Nat):Int:=if t=0 then 0 else nth v (t - 1)
theorem lastV_succ (v:List Int) (t:Nat):lastV v (t+1)=nth v t:=by unfold lastV;rw[if_neg (by omega)];rfl
def wInf:List UInt8:=[105,110,102]
def wPer:List UInt8:=[112,101,114]
def wInc:List UInt8:=[105,110,99]
def numF (n:Nat) (c:UInt8):Nat:=10*n+(c.toNat - 48)
def wordV (v:Int):List UInt8:=if v=INF then wInf else Lib.itoa v
def endW (per inc:Int):List (List UInt8):=[wPer,Lib.itoa per,wInc,Lib.itoa inc]
def Rest (c:Cv) (vals:List Int) (per inc:Int):Nat→List (List UInt8)→Prop
  | 5,ws=>ws=[]∧c=⟨vals,per,inc⟩
  | 4,ws=>c.vals=vals∧c.per=per∧0≤c.inc∧ws=[Lib.itoa c.inc]
  | 3,ws=>c.vals=vals∧c.per=per∧0≤c.inc∧ws=[wInc,Lib.itoa c.inc]
  | 2,ws=>c.vals=vals∧0≤c.per∧0≤c.inc∧ws=[Lib.itoa c.per,wInc,Lib.itoa c.inc]
  | _,ws=>∃ vs,c.vals=vals++vs∧0≤c.per∧0≤c.inc∧ws=vs.map wordV++endW c.per c.inc
section
variable {τ:Type} (ps:List Pkt) (rc:Int→St→τ→Int × τ)
end
section
variable {σ τ:Type} {ps:List Pkt} {ch:MS→σ→Int × Nat × σ} {good:MS→σ→Prop} {rel:Nat→Nat→Prop} {classes col:Nat} {s:RS σ} {st:St} {g:τ} {rc:Int→St→τ→Int × τ} {ρ:σ→τ→Prop}
end
section
variable {ps:List Pkt} {classes len:Nat} {B:Int} {st:St}
end
section
variable {ps:List Pkt} {n:Nat}
end
section
variable {nx sz:Int→Int} {w:List Int}
end
section
variable {ps:List Pkt} {w:List Int} {ms:MS} {s:Nat × Bool × List Int}
end
def slotT (tb:List Int) (t:Nat):Int:=nth tb (t % tb.length)
section
variable {ps:List Pkt} {cap:Int} {tb:List Int} {ms:MS} {st:St}
end
def okT (classes:Int) (tb:List Int):Bool:=decide (1≤tb.length) && decide (tb.length≤40) && tb.all fun c=>decide (-1≤c) && decide (c<classes)
structure Ln where
  kind:Int
  cap:Int
  n:Int
  w:List Int
  tb:List Int
def withinB (l:List Int) (lo hi:Int):Bool:=l.all fun x=>decide (lo≤x) && decide (x≤hi)
def outB (lo hi x:Int):Bool:=decide (x<lo) || decide (hi<x)
def listsE (b:Bool) (rows:List (List Int)):Int:=if b=false then 2 else if rows.any (fun r=>decide (0<r.length))=true then 6 else 0
theorem within_find {l:List Int} {lo hi:Int}:(!decide (0≤findN (fun i=>outB lo hi (nth l i)) l.length))=withinB l lo hi:=by
 rcases findN_cases (fun i=>outB lo hi (nth l i)) l.length with ⟨i,h1,h2,h3,h4⟩|⟨h1,h2⟩
 ·rw[h2]
  have:withinB l lo hi=false:=by
   apply Bool.eq_false_iff.2
   intro hh
   unfold withinB at hh
   rw[List.all_eq_true] at hh
   have:=hh _ (nth_mem h1)
   simp only[outB,Bool.or_eq_true,decide_eq_true_eq,Bool.and_eq_true] at h3 this
   omega
  rw[this];simp
 ·rw[h1]
  have:withinB l lo hi=true:=by
   unfold withinB
   rw[List.all_eq_true]
   intro x hx
   obtain⟨i,hi,rfl⟩:=List.getElem_of_mem hx
   have:=h2 i hi
   rw[show nth l i=l[i] by unfold nth List.getD;rw[List.getElem?_eq_getElem hi];rfl] at this
   simp only[outB,Bool.or_eq_false_iff,decide_eq_false_iff_not] at this
   simp only[Bool.and_eq_true,decide_eq_true_eq];omega
  rw[this];rfl
def lchkL (L:Ln):Int :=
  if L.kind=3 then listsE (decide ((L.w.length:Int)=L.n) && withinB L.w 1 20) [L.tb]
  else if L.kind=4 then listsE (decide ((L.w.length:Int)=L.n) && withinB L.w 1 6000) [L.tb]
  else if L.kind=5 then listsE (decide (1≤(L.tb.length:Int)) && decide ((L.tb.length:Int)≤40) && withinB L.tb (-1) (L.n - 1)) [L.w]
  else listsE true [L.w,L.tb]
def chkL (L:Ln):Int:=if L.kind<1∨5<L.kind then 9 else if L.cap<1∨4000<L.cap∨L.n<1∨6<L.n then 2 else lchkL L
theorem chk_facts {L:Ln} (h:chkL L=0):(1≤L.kind∧L.kind≤5)∧1≤L.cap∧L.cap≤4000∧1≤L.n∧L.n≤6∧lchkL L=0:=by
 unfold chkL at h
 split at h
 ·omega
 ·split at h
  ·omega
  ·exact⟨by omega,by omega,by omega,by omega,by omega,h⟩
def wordOk (s:List UInt8) (j:Nat):Prop:=byteAt s j=45∨(48≤byteAt s j∧byteAt s j≤57)∨(97≤byteAt s j∧byteAt s j≤122)
instance (s:List UInt8) (j:Nat):Decidable (wordOk s j):=by unfold wordOk;infer_instance
def wordB (s:List UInt8):Bool:=decide (1≤s.length∧s.length≤12∧(97≤byteAt s 0∧byteAt s 0≤122)∧∀ j,j<s.length→wordOk s j)
def frE (met:List (List UInt8)) (n:List UInt8):Int:=if wordB n=false then 4 else if n∈met then 60 else 0
def chkLs:List (List UInt8)→List (List UInt8 × Ln)→Int
  | _,[]=>0
  | met,x::r=>if frE met x.1≠0 then frE met x.1 else if chkL x.2≠0 then chkL x.2 else chkLs (met++[x.1]) r
structure DrawP (k:Nat) (L:Ln):Prop where
  cap:4≤L.cap∧L.cap≤24
  n:L.n=k
  kind:1≤L.kind∧L.kind≤5
  plain:L.kind=1∨L.kind=2→L.w=[]∧L.tb=[]
  one:L.kind=1→k=1
  rob:L.kind=3→L.w.length=k∧(∀ x∈L.w,1≤x∧x≤3)∧L.tb=[]
  defi:L.kind=4→L.w.length=k∧(∀ x∈L.w,8≤x∧x≤20)∧L.tb=[]
  slots:L.kind=5→L.w=[]∧k≤L.tb.length∧L.tb.length≤k+2∧∀ x∈L.tb,-1≤x∧x≤(k:Int) - 1
def nm4:List (List UInt8):=[[97],[98],[99],[100]]
theorem chkLs_ok:∀ (xs:List (List UInt8 × Ln)) (met:List (List UInt8)),(∀ x∈xs,wordB x.1=true∧chkL x.2=0)→(met++xs.map (·.1)).Nodup→chkLs met xs=0
 | [],_,_,_=>rfl
 | x :: r, met, h, hd => by
  have hx:=h x (by simp)
  have hn:x.1∉met:=fun hm=>by
   rw[List.nodup_append] at hd
   exact hd.2.2 _ hm _ (by simp) rfl
  have hf:frE met x.1=0:=by unfold frE;rw[if_neg (by rw[hx.1];decide),if_neg hn]
  rw[chkLs,if_neg (fun e=>e hf),if_neg (fun e=>e hx.2)]
  exact chkLs_ok r _ (fun y hy=>h y (by simp[hy])) (by rw[List.append_assoc];exact hd)
end Go.Proofs.YtehaepbflkncdaaGreat.M
namespace Go.Proofs.YtehaepbflkncdaaGreat.K
open Go
theorem W.dropE {P:Program} {x:Code} {Q:Exit→Act→World→Prop} {n:Nat} {env:Env} {w0:World} {R:Ro} {E E':List Ent} (hE:E'.Sublist E) (h:W P x Q n env w0 R E'):W P x Q n env w0 R E:=fun a w hk hm=>h a w hk (hm.sub (RLe.refl _) hE)
end Go.Proofs.YtehaepbflkncdaaGreat.K
namespace Go.Proofs.YtehaepbflkncdaaGreat.M
open Go Go.Proofs.YtehaepbflkncdaaGreat.K
instance instLnI:Inhabited Ln:=⟨⟨0,0,0,[],[]⟩⟩
structure LnM where
  a1:Option Addr
  c1:Nat
  a2:Option Addr
  c2:Nat
  L:Ln
instance instLnM:Inhabited LnM:=⟨⟨none,0,none,0,⟨0,0,0,[],[]⟩⟩⟩
def encLn (m:LnM):List Value:=[.int .i64 m.L.kind,.int .i64 m.L.cap,.int .i64 m.L.n,.slice m.a1 m.L.w.length m.c1,.slice m.a2 m.L.tb.length m.c2]
def OkLn (R:Ro) (m:LnM):Prop:=K.RS R 1 encI m.a1 m.L.w∧K.RS R 1 encI m.a2 m.L.tb
theorem OkLn.mono {R R':Ro} {m:LnM} (h:OkLn R m) (hR:RLe R R'):OkLn R' m:=⟨h.1.mono hR,h.2.mono hR⟩
structure Fl where
  name:List UInt8
  route:List Int
  cls:Int
  lo:Int
  hi:Int
  cv:Cv
instance instFl:Inhabited Fl:=⟨⟨[],[],0,0,0,zcv⟩⟩
structure FlM where
  a1:Option Addr
  c1:Nat
  a2:Option Addr
  c2:Nat
  f:Fl
instance instFlM:Inhabited FlM:=⟨⟨none,0,none,0,default⟩⟩
def FlM.nm (m:FlM):List UInt8:=m.f.name
def encFl (m:FlM):List Value:=[.string (str m.f.name),.slice m.a1 m.f.route.length m.c1,.int .i64 m.f.cls,.int .i64 m.f.lo,.int .i64 m.f.hi,.slice m.a2 m.f.cv.vals.length m.c2,.int .i64 m.f.cv.per,.int .i64 m.f.cv.inc]
structure OkFl (R:Ro) (m:FlM):Prop where
  route:K.RS R 1 encI m.a1 m.f.route
  vals:K.RS R 1 encI m.a2 m.f.cv.vals
  len:m.f.cv.vals.length≤9223372036854775807
  name:m.f.name.length≤9223372036854775807
theorem OkFl.mono {R R':Ro} {m:FlM} (h:OkFl R m) (hR:RLe R R'):OkFl R' m:=⟨h.route.mono hR,h.vals.mono hR,h.len,h.name⟩
structure LsF (R:Ro) (E:List Ent) (la:Option Addr) (l:List FlM):Prop where
  rd:∀ i,i<l.length→Rd R E (eaddr la 8 i) (encFl (nth l i))
  has:HasMem R E la l.length
  len:l.length≤9223372036854775807
theorem LsF.sub {R R':Ro} {E E':List Ent} {la:Option Addr} {l:List FlM} (h:LsF R E la l) (hR:RLe R R') (hE:E.Sublist E'):LsF R' E' la l :=
 ⟨fun i hi w0 w hm=>h.rd i hi w0 w (hm.sub hR hE),fun w0 w hm=>h.has w0 w (hm.sub hR hE),h.len⟩
theorem LsF.ro {R:Ro} {E:List Ent} {la:Option Addr} {l:List FlM} (h:K.RS R 8 encFl la l):LsF R E la l:=⟨fun _ hi=>RS.rdD h hi,RS.has h,h.len⟩
def routeGo (ls:List Ln) (cl:Int):List Int→List Int→Int
  | _,[]=>0
  | met,l::r=>if l<0∨(ls.length:Int)≤l then 2 else if l∈met then 60 else if cl<0∨(nth ls l.toNat).n≤cl then 2 else routeGo ls cl (met++[l]) r
def routeE (ls:List Ln) (f:Fl):Int:=if f.route.length=0 then 5 else if 4<f.route.length then 3 else routeGo ls f.cls [] f.route
def trafE (f:Fl):Int:=if f.lo<1∨f.hi<f.lo∨1500<f.hi then 2 else if validB f.cv=false then 1 else if nth f.cv.vals 0≠0 then 6 else if finB f.cv=false then 2 else 0
def flE (met:List (List UInt8)) (ls:List Ln) (f:Fl):Int:=if frE met f.name≠0 then frE met f.name else if routeE ls f≠0 then routeE ls f else trafE f
def chkFs (ls:List Ln):List (List UInt8)→List Fl→Int
  | _,[]=>0
  | met,f::r=>if flE met ls f≠0 then flE met ls f else chkFs ls (met++[f.name]) r
def chkNet (names:List (List UInt8)) (Ls:List Ln) (Fs:List Fl):Int:=if Ls.length=0∨8<Ls.length∨10<Fs.length then 3 else if names.length≠Ls.length then 2 else if chkLs [] (names.zip Ls)≠0 then chkLs [] (names.zip Ls) else chkFs Ls [] Fs
theorem routeGo_zero {ls:List Ln} {cl:Int}:∀ (r met:List Int),routeGo ls cl met r=0→(∀ l∈r,(0≤l∧l<ls.length)∧l∉met∧0≤cl∧cl<(nth ls l.toNat).n)∧r.Nodup
 | [],_,_=>⟨fun l h=>(by cases h),List.nodup_nil⟩
 | x :: r, met, h => by
  rw[routeGo] at h
  by_cases h1:x<0∨(ls.length:Int)≤x
  ·rw[if_pos h1] at h;cases h
  ·rw [if_neg h1] at h
   by_cases h2:x∈met
   ·rw[if_pos h2] at h;cases h
   ·rw[if_neg h2] at h
    by_cases h3:cl<0∨(nth ls x.toNat).n≤cl
    ·rw[if_pos h3] at h;cases h
    ·rw[if_neg h3] at h
     obtain⟨h4,h5⟩:=routeGo_zero r _ h
     refine⟨fun l hl=>?_,List.nodup_cons.2 ⟨fun hx=>(h4 x hx).2.1 (by simp),h5⟩⟩
     rcases List.mem_cons.1 hl with rfl|hl
     ·exact⟨by omega,h2,by omega⟩
     ·obtain⟨a,b,c⟩:=h4 l hl
      exact⟨a,fun hm=>b (by simp[hm]),c⟩
structure FlRight (ls:List Ln) (f:Fl):Prop where
  word:wordB f.name=true
  len:1≤f.route.length∧f.route.length≤4
  route:∀ l∈f.route,(0≤l∧l<ls.length)∧0≤f.cls∧f.cls<(nth ls l.toNat).n
  nodup:f.route.Nodup
  cls:0≤f.cls
  sizes:1≤f.lo∧f.lo≤f.hi∧f.hi≤1500
  valid:validB f.cv=true
  zero:nth f.cv.vals 0=0
  fin:finB f.cv=true
theorem frE_zero {met:List (List UInt8)} {n:List UInt8} (h:frE met n=0):wordB n=true∧n∉met:=by
 unfold frE at h
 by_cases h1:wordB n=false
 ·rw[if_pos h1] at h;cases h
 ·rw[if_neg h1] at h
  by_cases h2:n∈met
  ·rw[if_pos h2] at h;cases h
  ·exact⟨by simpa using h1,h2⟩
theorem flE_zero {met : List (List UInt8)} {ls : List Ln} {f : Fl} (h : flE met ls f = 0) : FlRight ls f ∧ f.name ∉ met := by
 unfold flE at h
 by_cases h1:frE met f.name≠0
 ·rw[if_pos h1] at h;exact absurd h h1
 ·rw [if_neg h1] at h
  by_cases h2:routeE ls f≠0
  ·rw[if_pos h2] at h;exact absurd h h2
  ·rw [if_neg h2] at h
   obtain⟨a1,a2⟩:=frE_zero (Classical.not_not.1 h1)
   have hr:=Classical.not_not.1 h2
   unfold routeE at hr
   by_cases h3:f.route.length=0
   ·rw[if_pos h3] at hr;cases hr
   ·rw [if_neg h3] at hr
    by_cases h4:4<f.route.length
    ·rw[if_pos h4] at hr;cases hr
    ·rw [if_neg h4] at hr
     obtain⟨b1,b2⟩:=routeGo_zero _ _ hr
     unfold trafE at h
     by_cases h5:f.lo<1∨f.hi<f.lo∨1500<f.hi
     ·rw[if_pos h5] at h;cases h
     ·rw [if_neg h5] at h
      by_cases h6:validB f.cv=false
      ·rw[if_pos h6] at h;cases h
      ·rw[if_neg h6] at h
       by_cases h7:nth f.cv.vals 0≠0
       ·rw[if_pos h7] at h;cases h
       ·rw[if_neg h7] at h
        by_cases h8:finB f.cv=false
        ·rw[if_pos h8] at h;cases h
        ·refine⟨⟨a1,by omega,fun l hl=>⟨(b1 l hl).1,(b1 l hl).2.2⟩,b2,?_,by omega,by simpa using h6,Classical.not_not.1 h7,by simpa using h8⟩,a2⟩
         exact(b1 _ (nth_mem (show 0<f.route.length by omega))).2.2.1
def stairC (burst:Int) (p:Nat) (more:Int):Cv:=⟨0::List.replicate p burst,p,more⟩
structure StairP (c:Cv):Prop where
  ex:∃ (burst:Int) (p:Nat) (more:Int),c=stairC burst p more∧(4≤burst∧burst≤16)∧(1≤p∧p≤12)∧0≤more∧more≤3
structure DrawF (k m:Nat) (f:Fl):Prop where
  cls:0≤f.cls∧f.cls<k
  sizes:1≤f.lo∧f.lo≤f.hi∧f.hi≤7
  len:1≤f.route.length∧f.route.length≤3
  route:∀ l∈f.route,0≤l∧l<m
  nodup:f.route.Nodup
  cv:StairP f.cv
def nf5:List (List UInt8):=[[102],[103],[104],[105],[106]]
theorem nf5_len (i:Nat):(nth nf5 i).length≤100:=by
 by_cases h:i<nf5.length
 ·have:∀ x∈nf5,x.length≤100:=by decide
  exact this _ (nth_mem h)
 ·rw[nth_out (by omega)];decide
def wayR (a s:Int) (m j:Nat):List Int:=(List.range j).map fun (i:Nat)=>mod (a+(i:Int)*s) (m:Int)
theorem way_nodup:∀ m:Nat,m<5→∀ a:Nat,a<m→∀ j:Nat,j<4→j≤m→(wayR (a:Int) 1 m j).Nodup∧(wayR (a:Int) ((m:Int) - 1) m j).Nodup:=by decide
theorem pick6:∀ i,i<6→1≤nth ([1,2,3,4,6,12]:List Int) i∧nth ([1,2,3,4,6,12]:List Int) i≤12:=by decide
theorem wayR_snoc (a s:Int) (m j:Nat):wayR a s m (j+1)=wayR a s m j++[mod (a+j*s) m]:=by
 unfold wayR
 rw[List.range_succ,List.map_append,List.map_singleton]
theorem wayR_len (a s:Int) (m j:Nat):(wayR a s m j).length=j:=by unfold wayR;rw[List.length_map,List.length_range]
theorem way_step (a s:Int) (m j:Nat) (hm:1≤m):mod (mod (a+j*s) m+s) m=mod (a+(j+1:Nat)*s) m:=by
 unfold mod
 rw[if_neg (by omega),if_neg (by omega),if_neg (by omega),Int.emod_add_emod,show a+(j:Int)*s+s=a+((j+1:Nat):Int)*s by rw[Int.natCast_add,Int.add_mul];omega]
theorem way_in {a s:Int} {m j:Nat} (hm:1≤m):∀ l∈wayR a s m j,0≤l∧l<m:=fun l hl=>by
 unfold wayR at hl
 obtain⟨i,_,rfl⟩:=List.mem_map.1 hl
 have:=mod_range (a+i*s) (show (1:Int)≤(m:Int) by omega)
 exact this
theorem stair_nth {b:Int} {p i:Nat} (h1:1≤i) (h2:i≤p):nth (0::List.replicate p b) i=b:=by
 obtain⟨j,rfl⟩:∃ j,i=j+1:=⟨i - 1,by omega⟩
 rw[nth_eq (by rw[List.length_cons,List.length_replicate];omega),List.getElem_cons_succ,List.getElem_replicate]
theorem stair_valid {c:Cv} (h:StairP c):validB c=true∧nth c.vals 0=0∧finB c=true∧c.vals.length≤13:=by
 obtain⟨b,p,q,rfl,hb,hp,hq⟩:=h.ex
 have hl:(stairC b p q).vals.length=p+1:=by show (0::List.replicate p b).length=_;rw[List.length_cons,List.length_replicate]
 have h0:nth (stairC b p q).vals 0=0:=rfl
 have hlast:nth (stairC b p q).vals ((stairC b p q).vals.length - 1)=b:=by rw[hl];exact stair_nth (by omega) (by omega)
 have hI:INF=4611686018427387904:=rfl
 have hM:MAXV=1073741824:=rfl
 refine⟨?_,h0,?_,by omega⟩
 ·refine validB_iff.2 ⟨⟨by omega,by omega,by show (1:Int)≤(p:Int);omega,by show (p:Int)≤120;omega,by rw[hl];show (p:Int)≤((p+1:Nat):Int);omega,hq.1,by show q≤_;omega⟩,fun i hi=>?_,?_⟩
  ·rw[hl] at hi
   rcases Nat.eq_zero_or_pos i with rfl|h1
   ·rw[h0];exact⟨.inr ⟨Int.le_refl 0,by omega⟩,.inl rfl⟩
   ·have e:nth (stairC b p q).vals i=b:=stair_nth h1 (by omega)
    rw[e]
    refine⟨.inr ⟨by omega,by omega⟩,.inr ?_⟩
    rcases Nat.eq_zero_or_pos (i - 1) with h2|h2
    ·rw[h2,h0];omega
    ·rw[show nth (stairC b p q).vals (i - 1)=b from stair_nth h2 (by omega)];exact Int.le_refl b
  ·rw[hlast,if_neg (by omega)]
   have e:nth (stairC b p q).vals ((stairC b p q).vals.length - (stairC b p q).per.toNat)=b:=by
    rw[hl];show nth _ (p+1 - (p:Int).toNat)=b;rw[show p+1 - (p:Int).toNat=1 by omega];exact stair_nth (by omega) (by omega)
   rw[e]
   show b≤b+q
   omega
 ·unfold finB
  rw[hlast]
  exact bne_iff_ne.2 (by omega)
end Go.Proofs.YtehaepbflkncdaaGreat.M
namespace Go.Proofs.YtehaepbflkncdaaGreat.K
open Go Go.RowKit
section
variable {P:Program} {ops:List Oper} {o:Oper} {Q:Exit→Act→World→Prop} {ES:List Ent} {R0:Ro} {w0:World} {fuel:Nat} {listed:Array Bool} {n:Nat} {env:Env} {R:Ro} {E:List Ent} {pc q:Bool}
theorem WA.callV {v:Value} {d:Nat} {f:FuncId} {vs:List Value} (i:Nat) (hi:ops.toArray[i]?=some o) (hr:Region.ready .any ops.toArray listed=[i]) (hf:Enters P f) (hg:gpc ops env o=some pc) (hd:o.dst=some d) (hdn:d<n)
  (hc:CallOp env o.op q f vs) (hq:pc=true→q=true) (hv:pc=true→FnV P f vs R v) (hsub:ES.Sublist E) (hR:RLe R0 R)
  (h:WA P ops Q ES R0 w0 fuel (listed.setIfInBounds i true) n ((d,pc,v)::env) R E):WA P ops Q ES R0 w0 (fuel+1) listed n env R E:=by
 intro a w hk hm
 refine wpAnyH_all hr (by simp) fun j hj=>?_
 obtain rfl:j=i:=by simpa using hj
 unfold wpOp
 rw[hi]
 have hput:=hk.put hdn pc v
 have hw:=hk.wanted hg
 cases pc with
 | true =>
  simp only[hw,if_true]
  left
  unfold Oper.wp
  rw[run_call hk hc (hq rfl) hf]
  refine(hv rfl w0 E w hm).mono ?_
  rintro e w' ⟨rfl,hm'⟩
  simp only[hd]
  exact⟨hm'.sub hR hsub,h _ _ (by simpa using hput) hm'⟩
 | false =>
  simp only[hw,Bool.false_eq_true,if_false,hd]
  exact⟨hm.sub hR hsub,h _ _ (by simpa using hput) hm⟩
theorem WS.callV {v:Value} {d:Nat} {f:FuncId} {vs:List Value} {i:Nat} (hi:ops.toArray[i]?=some o) (hf:Enters P f) (hg:gpc ops env o=some pc) (hd:o.dst=some d) (hdn:d<n)
  (hc:CallOp env o.op q f vs) (hq:pc=true→q=true) (hv:pc=true→FnV P f vs R v) (hsub:ES.Sublist E) (hR:RLe R0 R)
  (h:WA P ops Q ES R0 w0 fuel (listed.setIfInBounds i true) n ((d,pc,v)::env) R E):WS P ops Q ES R0 w0 fuel listed n env R E i:=by
 intro a w hk hm
 unfold wpOp
 rw[hi]
 have hput:=hk.put hdn pc v
 have hw:=hk.wanted hg
 cases pc with
 | true =>
  simp only[hw,if_true]
  left
  unfold Oper.wp
  rw[run_call hk hc (hq rfl) hf]
  refine(hv rfl w0 E w hm).mono ?_
  rintro e w' ⟨rfl,hm'⟩
  simp only[hd]
  exact⟨hm'.sub hR hsub,h _ _ (by simpa using hput) hm'⟩
 | false =>
  simp only[hw,Bool.false_eq_true,if_false,hd]
  exact⟨hm.sub hR hsub,h _ _ (by simpa using hput) hm⟩
end
theorem noD {b:Bool} {p:Prop} (h:b=false):b=true→p:=fun h2=>by rw[h] at h2;cases h2
def noneD (D:List Nat) (listed:Array Bool):Bool:=(List.range listed.size).all fun d=>!(D.contains d) || !(listed.getD d true)
theorem noneD_set {D:List Nat} {listed:Array Bool} {i:Nat} (h:D.contains i=false):noneD D (listed.setIfInBounds i true)=noneD D listed:=by
 unfold noneD
 rw[Array.size_setIfInBounds]
 apply Bool.eq_iff_iff.2
 simp only[List.all_eq_true]
 have e:∀ d,(!(D.contains d) || !((listed.setIfInBounds i true).getD d true))=(!(D.contains d) || !(listed.getD d true)):=fun d=>by
  by_cases hd:i=d
  ·subst hd;rw[h];rfl
  ·rw[getD_set_ne true hd]
 exact⟨fun hh d hm=>(e d) ▸ hh d hm,fun hh d hm=>(e d).symm ▸ hh d hm⟩
section
variable {P:Program} {ops:Array Oper} {Q:Exit→Act→World→Prop} {md:Region.Mode} {S S2:World→Prop} {D:List Nat}
def wpAnyD (P : Program) (md : Region.Mode) (ops : Array Oper) (Q : Exit → Act → World → Prop) (S S2 : World → Prop) (D : List Nat) : Nat → Array Bool → Act → World → Prop
  | 0,listed,a,w=>Region.ready md ops listed=[]∧Q .normal a w
  | fuel + 1, listed, a, w =>
    (Region.ready md ops listed=[]→Q .normal a w) ∧
    ∀ i∈Region.ready md ops listed,wpOp P ops Q i (fun a' w'=>(S w'∧(noneD D (listed.setIfInBounds i true)=true→S2 w'))∧wpAnyD P md ops Q S S2 D fuel (listed.setIfInBounds i true) a' w') a w
theorem wpAny_of_D:∀ (fuel:Nat) (listed:Array Bool) (a:Act) (w:World),wpAnyD P md ops Q S S2 D fuel listed a w→wpAny P md ops Q fuel listed a w
 | 0,_,_,_,h=>h
 | fuel+1,_,_,_,h=>⟨h.1,fun i hi=>wpOp_mono (fun a' w' h'=>wpAny_of_D fuel _ a' w' h'.2) (h.2 i hi)⟩
def waitsD (md:Region.Mode) (ops:Array Oper) (D:List Nat) (i:Nat):Bool:=D.all fun d=>match ops[d]? with|some od=>od.after.toList.any fun e=>Region.binds md e && Nat.beq e.on i|none=>true
theorem waitsD_spec {i d:Nat} {od:Oper} (h:waitsD md ops D i=true) (hd:D.contains d=true) (ho:ops[d]?=some od):∃ e∈od.after,Region.binds md e=true∧e.on=i:=by
 unfold waitsD at h
 have h1:=List.all_eq_true.1 h d (by simpa using hd)
 rw[ho] at h1
 simp only[List.any_eq_true,Bool.and_eq_true] at h1
 obtain⟨e,he,h2,h3⟩:=h1
 exact⟨e,Array.mem_toList_iff.1 he,h2,Nat.eq_of_beq_eq_true h3⟩
theorem wpAnyD_first {SX:World→Prop} {i:Nat} {oi:Oper} {v:Value} (hi:ops[i]?=some oi) (hsel:∀ (j:Nat) (o:Oper) cs b,ops[j]?=some o→o.op≠.select cs b)
  (hQ:∀ c a w,Q (.panic c) (a.put oi.dst v) w→Q (.panic c) a w) (hDi:D.contains i=false) :
  ∀ (fuel:Nat) (listed:Array Bool) (a:Act) (w:World),
   (∀ j oj,ops[j]?=some oj→j≠i→listed.getD j true=false→(∀ e∈oj.after,Region.binds md e=true→e.on≠i)→oi.apart ops oj=true) →
   i∈Region.ready md ops listed→YieldsIf P ops SX oi v a→S w→(noneD D listed=true→S2 w) →
   ((∀ w,S w→SX w)∨((∀ w,S2 w→SX w)∧waitsD md ops D i=true∧noneD D listed=true)) →
   wpAnyD P md ops Q S S2 D fuel (listed.setIfInBounds i true) (a.put oi.dst v) w→wpAnyD P md ops Q S S2 D (fuel+1) listed a w:=by
 intro fuel
 induction fuel with
 | zero =>
  intro listed a w _ hr hy hS hS2 hm H
  have hSX:SX w:=by
   rcases hm with hm|⟨hm,_,hn⟩
   ·exact hm w hS
   ·exact hm w (hS2 hn)
  refine⟨fun h=>(by rw[h] at hr;cases hr),fun j hj=>?_⟩
  by_cases hji:j=i
  ·subst hji;exact hy.wpOp hi hSX ⟨⟨hS,fun hn=>hS2 (by rw[noneD_set hDi] at hn;exact hn)⟩,H⟩
  ·have:=ready_mono hj hji
   rw[H.1] at this
   cases this
 | succ fuel ih =>
  intro listed a w hfree hr hy hS hS2 hm H
  have hSX:SX w:=by
   rcases hm with hm|⟨hm,_,hn⟩
   ·exact hm w hS
   ·exact hm w (hS2 hn)
  refine⟨fun h=>(by rw[h] at hr;cases hr),fun j hj=>?_⟩
  by_cases hji:j=i
  ·subst hji;exact hy.wpOp hi hSX ⟨⟨hS,fun hn=>hS2 (by rw[noneD_set hDi] at hn;exact hn)⟩,H⟩
  ·have h1:=H.2 j (ready_mono hj hji)
   obtain⟨hjun,oj,hoj,hall⟩:=mem_ready.1 hj
   have hnot:∀ e∈oj.after,Region.binds md e=true→e.on≠i:=fun e he hb heq=>by
    have h1:=hall e he hb
    have h0:=(mem_ready.1 hr).1
    rw[heq] at h1
    rcases Nat.lt_or_ge i listed.size with h'|h'
    ·simp[h'] at h0 h1;rw[h0] at h1;cases h1
    ·simp[Array.getElem?_eq_none h'] at h1
   have hm':(∀ w,S w→SX w)∨((∀ w,S2 w→SX w)∧waitsD md ops D i=true∧noneD D (listed.setIfInBounds j true)=true):=by
    rcases hm with hm|⟨g1,g2,g3⟩
    ·exact .inl hm
    ·refine .inr ⟨g1,g2,?_⟩
     have hdj:D.contains j=false:=by
      cases hdj:D.contains j with
      | false=>rfl
      | true =>
       obtain⟨e,he,hb,heq⟩:=waitsD_spec g2 hdj hoj
       exact absurd heq (hnot e he hb)
     rw[noneD_set hdj];exact g3
   have h2:=wpOp_putIf hoj (hfree j oj hoj hji hjun hnot) (fun cs b=>hsel i oi cs b hi) (fun cs b=>hsel j oj cs b hoj) hQ hy h1
   have hfree':∀ k ok,ops[k]?=some ok→k≠i→(listed.setIfInBounds j true).getD k true=false →
     (∀ e∈ok.after,Region.binds md e=true→e.on≠i)→oi.apart ops ok=true:=fun k ok hk hki hun hno=>by
    refine hfree k ok hk hki ?_ hno
    by_cases hjk:j=k
    ·subst hjk;exact hjun
    ·rw[getD_set_ne true hjk] at hun;exact hun
   have hco:=Array.setIfInBounds_comm (xs:=listed) true true (show j≠i from hji)
   refine wpOp_mono (fun a' w' h3=>?_) h2
   have hn':noneD D (listed.setIfInBounds j true)=true→S2 w':=fun hn=>h3.2.1.2 (by rw[← hco,noneD_set hDi];exact hn)
   refine⟨⟨h3.2.1.1,hn'⟩,ih (listed.setIfInBounds j true) a' w' hfree' (ready_mono hr (Ne.symm hji)) h3.1 h3.2.1.1 hn' hm' ?_⟩
   rw[hco]
   exact h3.2.2
theorem wpAnyD_all {rs:List Nat} {fuel:Nat} {listed:Array Bool} {a:Act} {w:World} (hr:Region.ready md ops listed=rs) (hne:rs≠[])
  (h:∀ i∈rs,wpOp P ops Q i (fun a' w'=>(S w'∧(noneD D (listed.setIfInBounds i true)=true→S2 w'))∧wpAnyD P md ops Q S S2 D fuel (listed.setIfInBounds i true) a' w') a w):wpAnyD P md ops Q S S2 D (fuel+1) listed a w :=
 ⟨fun h0=>absurd (hr ▸ h0) hne,hr ▸ h⟩
theorem wpAnyD_done {listed:Array Bool} {a:Act} {w:World} (hr:Region.ready md ops listed=[]) (h:Q .normal a w) :
  ∀ fuel,wpAnyD P md ops Q S S2 D fuel listed a w
 | 0=>⟨hr,h⟩
 | _+1=>⟨fun _=>h,by rw[hr];simp⟩
end
section
variable {P:Program} {T:Tab} {ops:List Oper} {Q:Exit→Act→World→Prop} {n:Nat} {env:Env} {w0:World} {R R0:Ro} {E ES ES2:List Ent} {D:List Nat} {o:Oper} {pc q:Bool} {fuel:Nat} {listed:Array Bool}
def VA (P:Program) (ops:List Oper) (Q:Exit→Act→World→Prop) (ES ES2:List Ent) (D:List Nat) (R0:Ro) (w0:World) (fuel:Nat) (listed:Array Bool) (n:Nat) (env:Env) (R:Ro) (E:List Ent):Prop :=
  ∀ a w,Kn n env a→Mem w0 w R E→wpAnyD P .any ops.toArray (NoPanic Q) (fun w=>Mem w0 w R0 ES) (fun w=>Mem w0 w R0 ES2) D fuel listed a w
def VS (P:Program) (ops:List Oper) (Q:Exit→Act→World→Prop) (ES ES2:List Ent) (D:List Nat) (R0:Ro) (w0:World) (fuel:Nat) (listed:Array Bool) (n:Nat) (env:Env) (R:Ro) (E:List Ent) (i:Nat):Prop :=
  ∀ a w,Kn n env a→Mem w0 w R E→wpOp P ops.toArray (NoPanic Q) i (fun a' w'=>(Mem w0 w' R0 ES∧(noneD D (listed.setIfInBounds i true)=true→Mem w0 w' R0 ES2))∧wpAnyD P .any ops.toArray (NoPanic Q) (fun w=>Mem w0 w R0 ES) (fun w=>Mem w0 w R0 ES2) D fuel (listed.setIfInBounds i true) a' w') a w
theorem W.regionD (id:Nat) {l:List Oper} (ES ES2:List Ent) (D:List Nat) (hm:P.follows .mixedOrders=true)
  (h:VA P l Q ES ES2 D R w0 l.toArray.size (Array.replicate l.toArray.size false) n env R E):W P (.region id l.toArray true) Q n env w0 R E:=by
 intro a w hk hw
 refine wp_region_noPanic (wp_region_any hm (wpAny_of_D (S:=fun w=>Mem w0 w R ES) (S2:=fun w=>Mem w0 w R ES2) (D:=D) _ _ _ _ ?_))
 exact h a _ hk hw.drew
theorem VA.take2 {v:Value} {d:Nat} {pc:Bool} (i:Nat) (hi:ops.toArray[i]?=some o) (hs:Region.noSelect ops.toArray=true) (hf:Region.free .any ops.toArray listed i=true) (hr:(Region.ready .any ops.toArray listed).contains i=true) (hDi:D.contains i=false) (hw:waitsD .any ops.toArray D i=true) (hn:noneD D listed=true)
  (hg:gpc ops env o=some pc) (hd:o.dst=some d) (hdn:d<n) (hy:Yl P n env w0 R0 ES2 o pc v) (hsub:ES.Sublist E) (hR:RLe R0 R) (hs2:ES2.Sublist E)
  (h:VA P ops Q ES ES2 D R0 w0 fuel (listed.setIfInBounds i true) n ((d,pc,v)::env) R E):VA P ops Q ES ES2 D R0 w0 (fuel+1) listed n env R E:=by
 intro a w hk hm
 have hput:=hk.put hdn pc v
 refine wpAnyD_first (SX:=fun w=>Mem w0 w R0 ES2) (v:=if pc then v else undef) hi (Region.noSelect_spec hs) (fun _ _ _ h=>h) hDi fuel listed a w (Region.free_spec hi hf) (by simpa using hr) ?_ (hm.sub hR hsub) (fun _=>hm.sub hR hs2) (.inr ⟨fun _ h=>h,hw,hn⟩) ?_
 ·cases pc with
  | true=>exact .inl ⟨hk.wanted hg,fun w hm=>by simpa using hy a w hk hm rfl⟩
  | false=>exact .inr ⟨hk.wanted hg,rfl⟩
 ·rw[hd]
  exact h _ _ hput hm
theorem VA.one {i:Nat} (hr:Region.ready .any ops.toArray listed=[i]) (h:VS P ops Q ES ES2 D R0 w0 fuel listed n env R E i):VA P ops Q ES ES2 D R0 w0 (fuel+1) listed n env R E:=by
 intro a w hk hm
 refine wpAnyD_all hr (by simp) fun j hj=>?_
 obtain rfl:j=i:=by simpa using hj
 exact h a w hk hm
theorem VS.eff {d:Nat} {i:Nat} (hi:ops.toArray[i]?=some o) (hg:o.guard=none) (hd:o.dst=some d) (hdn:d<n)
  (h:Ef P n env w0 R E o fun v R' E'=>RLe R0 R'∧ES.Sublist E'∧(noneD D (listed.setIfInBounds i true)=true→ES2.Sublist E')∧VA P ops Q ES ES2 D R0 w0 fuel (listed.setIfInBounds i true) n ((d,true,v)::env) R' E'):VS P ops Q ES ES2 D R0 w0 fuel listed n env R E i:=by
 intro a w hk hm
 unfold wpOp
 rw[hi]
 simp only[Region.wanted,hg,if_true]
 left
 obtain⟨v,w',R',E',hrun,hm',hR',hsub',hs2,hn⟩:=h a w hk hm
 unfold Oper.wp
 rcases hrun with hrun|⟨hrun,rfl⟩
 ·rw[hrun];simp only[Oper.upon,hd];exact⟨⟨hm'.sub hR' hsub',fun h=>hm'.sub hR' (hs2 h)⟩,hn _ _ (hk.putT hdn v) hm'⟩
 ·rw[hrun];simp only[Oper.upon,hd];exact⟨⟨hm'.sub hR' hsub',fun h=>hm'.sub hR' (hs2 h)⟩,hn _ _ (hk.putT hdn _) hm'⟩
theorem VS.effN {i:Nat} (hi:ops.toArray[i]?=some o) (hg:o.guard=none) (hd:o.dst=none)
  (h:Ef P n env w0 R E o fun _ R' E'=>RLe R0 R'∧ES.Sublist E'∧(noneD D (listed.setIfInBounds i true)=true→ES2.Sublist E')∧VA P ops Q ES ES2 D R0 w0 fuel (listed.setIfInBounds i true) n env R' E'):VS P ops Q ES ES2 D R0 w0 fuel listed n env R E i:=by
 intro a w hk hm
 unfold wpOp
 rw[hi]
 simp only[Region.wanted,hg,if_true]
 left
 obtain⟨v,w',R',E',hrun,hm',hR',hsub',hs2,hn⟩:=h a w hk hm
 unfold Oper.wp
 rcases hrun with hrun|⟨hrun,rfl⟩
 ·rw[hrun];simp only[Oper.upon,hd];exact⟨⟨hm'.sub hR' hsub',fun h=>hm'.sub hR' (hs2 h)⟩,hn _ _ hk hm'⟩
 ·rw[hrun];simp only[Oper.upon,hd];exact⟨⟨hm'.sub hR' hsub',fun h=>hm'.sub hR' (hs2 h)⟩,hn _ _ hk hm'⟩
theorem VS.yl {v:Value} {d:Nat} {i:Nat} (hi:ops.toArray[i]?=some o) (hg:o.guard=none) (hd:o.dst=some d) (hdn:d<n) (hy:Yl P n env w0 R E o true v) (hsub:ES.Sublist E) (hR:RLe R0 R) (hs2:noneD D (listed.setIfInBounds i true)=true→ES2.Sublist E)
  (h:VA P ops Q ES ES2 D R0 w0 fuel (listed.setIfInBounds i true) n ((d,true,v)::env) R E):VS P ops Q ES ES2 D R0 w0 fuel listed n env R E i :=
 VS.eff hi hg hd hdn (fun a w hk hm=>⟨v,w,R,E,.inl (hy a w hk hm rfl),hm,hR,hsub,hs2,h⟩)
theorem VS.callAt {d:Nat} {f:FuncId} {vs:List Value} {e:Ent} {Post:Value→Ro→Ent→List Ent→Prop} (k:Nat) {i:Nat} (hi:ops.toArray[i]?=some o) (hf:Enters P f) (hg:o.guard=none) (hd:o.dst=some d) (hdn:d<n)
  (hc:CallOp env o.op true f vs) (hE:E[k]?=some e) (hv:Fn P f vs w0 R (e::E.eraseIdx k) (fun v R' E'=>∃ e' N,E'=N++e'::E.eraseIdx k∧Post v R' e' N))
  (h:∀ v R' e' N,RLe R R'→Post v R' e' N→RLe R0 R'∧ES.Sublist (N++E.set k e')∧(noneD D (listed.setIfInBounds i true)=true→ES2.Sublist (N++E.set k e'))∧VA P ops Q ES ES2 D R0 w0 fuel (listed.setIfInBounds i true) n ((d,true,v)::env) R' (N++E.set k e')):VS P ops Q ES ES2 D R0 w0 fuel listed n env R E i:=by
 intro a w hk hm
 unfold wpOp
 rw[hi]
 simp only[Region.wanted,hg,if_true]
 left
 unfold Oper.wp
 rw[run_call hk hc rfl hf]
 refine(hv w (hm.perm (perm_get hE))).mono ?_
 rintro e0 w' ⟨v,R',E',rfl,hR,hm',e',N,rfl,hp⟩
 obtain⟨g1,g2,g3,g4⟩:=h v R' e' N hR hp
 have hm2:=hm'.perm ((perm_set e' hE).append_left N)
 simp only[hd]
 exact⟨⟨hm2.sub g1 g2,fun h=>hm2.sub g1 (g3 h)⟩,g4 _ _ (hk.putT hdn v) hm2⟩
theorem VA.done (hr:Region.ready .any ops.toArray listed=[]) (h:WE Q .normal n env w0 R E):VA P ops Q ES ES2 D R0 w0 fuel listed n env R E :=
 fun a w hk hm=>wpAnyD_done hr (NoPanic.normal (h a w hk hm)) fuel
end
end Go.Proofs.YtehaepbflkncdaaGreat.K
namespace Go.Proofs.YtehaepbflkncdaaGreat.M
open Go Go.Proofs.YtehaepbflkncdaaGreat.K
def hopL (line:Int) (r:List Int):Int:=if line∈r then (r.idxOf line:Nat) else -1
theorem hopL_at {line:Int} {r:List Int} {k:Nat} (hk:k<r.length) (hb:∀ j,j<k→nth r j≠line) (he:nth r k=line):hopL line r=(k:Int):=by
 have hm:line∈r:=by rw[← he];exact nth_mem hk
 have hi:r.idxOf line=k:=by
  have h1:r.idxOf line<r.length:=List.idxOf_lt_length_of_mem hm
  have h2:nth r (r.idxOf line)=line:=by rw[nth_eq h1];exact List.getElem_idxOf h1
  rcases Nat.lt_trichotomy (r.idxOf line) k with h|h|h
  ·exact absurd h2 (hb _ h)
  ·exact h
  ·exact absurd he (by
    rw[nth_eq hk]
    intro h3
    have:=List.not_of_lt_findIdx (p:=(· == line)) (xs:=r) h
    simp[h3] at this)
 unfold hopL
 rw[if_pos hm,hi]
theorem hopL_no {line:Int} {r:List Int} (hb:∀ j,j<r.length→nth r j≠line):hopL line r=-1:=by
 unfold hopL
 rw[if_neg]
 intro hm
 obtain⟨j,hj,h⟩:=List.mem_iff_getElem.1 hm
 exact hb j hj (by rw[nth_eq hj];exact h)
def usersL (fs:List FlM) (line:Int) (n:Nat):List Int:=(List.range n).filterMap fun i=>if 0≤hopL line (nth fs i).f.route then some (i:Int) else none
theorem usersL_snoc (fs:List FlM) (line:Int) (n:Nat):usersL fs line (n+1)=usersL fs line n++(if 0≤hopL line (nth fs n).f.route then [(n:Int)] else []):=by
 unfold usersL
 rw[List.range_succ,List.filterMap_append]
 congr 1
 by_cases h:0≤hopL line (nth fs n).f.route
 ·simp[h]
 ·simp[h]
theorem usersL_mem {fs:List FlM} {line:Int} {n:Nat} {x:Int} (h:x∈usersL fs line n):0≤x∧x<n:=by
 unfold usersL at h
 obtain⟨i,hi,he⟩:=List.mem_filterMap.1 h
 have hi:=List.mem_range.1 hi
 by_cases hc:0≤hopL line (nth fs i).f.route
 ·rw[if_pos hc] at he;cases he;omega
 ·rw[if_neg hc] at he;cases he
theorem usersL_len (fs:List FlM) (line:Int) (n:Nat):(usersL fs line n).length≤n:=by
 unfold usersL
 have:=List.length_filterMap_le (fun i=>if 0≤hopL line (nth fs i).f.route then some (i:Int) else none) (List.range n)
 rw[List.length_range] at this
 exact this
def membL (fs:List FlM) (cls:Int) (us:List Int):List Int:=us.filter fun x=>decide ((nth fs x.toNat).f.cls=cls)
theorem nth_takeB {α:Type} [Inhabited α] {l:List α} {i m:Nat} (h:i<m) (hl:i<l.length):nth (l.take m) i=nth l i:=by
 rw[nth_eq (by rw[List.length_take];omega),nth_eq hl,List.getElem_take]
def befS (rows:List Sl) (cls:Int) (r:List Int):Int:=(r.map fun l=>nth (nth rows l.toNat).xs cls.toNat).foldl (· + ·) 0
theorem befS_snoc (rows:List Sl) (cls:Int) (r:List Int) (l:Int):befS rows cls (r++[l])=befS rows cls r+nth (nth rows l.toNat).xs cls.toNat:=by
 unfold befS
 rw[List.map_append,List.foldl_append]
 rfl
def ShD (rows:List Sl) (ms:List LnM):Prop:=rows.length=ms.length∧∀ i,i<ms.length→((nth rows i).xs.length:Int)=(nth ms i).L.n
def leD (a b:List Sl):Prop:=∀ i,i<a.length→∀ c,c<(nth a i).xs.length→0≤nth (nth a i).xs c∧nth (nth a i).xs c≤nth (nth b i).xs c
def aheadF (a:Cv) (d t:Nat):Int:=if t=0 then 0 else cvF a (t+d)
def aheadC (f:Cv) (d:Nat):Cv × Int:=mbuild (aheadF (normR f) d) (max 1 (stN (normR f) - d)) (normR f).per.toNat (normR f).inc
theorem befS_bound {ds:List Sl} {cls:Int} {r:List Int} {h:Nat} (hro:∀ l∈r,0≤l∧l<ds.length) (hdb:∀ s∈ds,∀ x∈s.xs,0≤x∧x≤400) (hcl:∀ s∈ds,0≤cls∧cls<s.xs.length) (hr:r.length≤4):0≤befS ds cls (r.take h)∧befS ds cls (r.take h)≤2000:=by
 have key:∀ k,0≤befS ds cls (r.take k)∧befS ds cls (r.take k)≤400*((r.take k).length:Int):=fun k=>by
  induction k with
  | zero=>simp[befS]
  | succ k ih =>
   by_cases hk:k<r.length
   ·rw[take_nth hk,befS_snoc,List.length_append]
    have h1:=hro _ (nth_mem hk)
    have h2:(nth r k).toNat<ds.length:=by omega
    have h3:=hcl _ (nth_mem h2)
    have h4:=hdb _ (nth_mem h2) _ (nth_mem (xs:=(nth ds (nth r k).toNat).xs) (k:=cls.toNat) (by omega))
    simp only[List.length_cons,List.length_nil]
    omega
   ·rw[List.take_of_length_le (by omega)]
    rw[List.take_of_length_le (by omega)] at ih
    exact ih
 have h1:=key h
 have h2:=List.length_take_le h r
 have h3:(r.take h).length≤r.length:=by rw[List.length_take];omega
 omega
theorem ahead_fin {a:Cv} (ha:validB a=true) (fa:finB a=true) {d S:Nat} (hS:stN a≤S+d∧1≤S) (hS2:S≤10000) (hd:d≤2000):RepF (aheadF a d) S a.per.toNat a.inc:=by
 rcases valid_cases ha with ⟨S1,P1,_,l1,p1,fc1,_⟩|⟨_,_,_,_,_,_,_,f⟩
 ·have hP1:=fc1.hP
  have hI1:=fc1.hI
  unfold stN at hS
  rw[l1,p1,Int.toNat_natCast] at hS
  rw[p1,Int.toNat_natCast]
  have hpl:∀ t,1≤t→aheadF a d t=cvF a (t+d):=fun t ht=>if_neg (by omega)
  have h0:aheadF a d 0=0:=if_pos rfl
  refine⟨by omega,hI1.1,fun t ht=>by rw[hpl _ (by omega),hpl _ (by omega),show t+P1+d=(t+d)+P1 by omega,fc1.hg (t+d) (by omega)],fun t=>?_,by rw[h0];omega,fun t ht=>?_⟩
  ·by_cases h:t=0
   ·subst h
    rw[h0,hpl _ (by omega)]
    exact fc1.nonneg (0+1+d)
   ·rw[hpl _ (by omega),hpl _ (by omega),show t+1+d=(t+d)+1 by omega]
    exact fc1.hm (t+d)
  ·by_cases h:t=0
   ·subst h;rw[h0];unfold INF;omega
   ·rw[hpl _ (by omega)]
    have:=fc1.bound (t+d)
    unfold INF;omega
 ·rw[fa] at f;cases f
theorem ahead_res {f:Cv} (hf:validB f=true) (hff:finB f=true) {d:Nat} (hd:d≤2000):aheadC f d=(zcv,3)∨∃ c,aheadC f d=(c,0)∧Nrm c∧cvF c=aheadF f d∧finB c=true:=by
 have hnf:=norm_nrm hf
 have hn:=norm_valid hf
 have s1:=stN_lt hnf.valid
 have e:aheadF (normR f) d=aheadF f d:=by unfold aheadF;rw[hn.2.1]
 unfold aheadC
 rcases(ahead_fin hnf.valid (by rw[hn.2.2.2.1];exact hff) (d:=d) (S:=max 1 (stN (normR f) - d)) (by omega) (by omega) hd).res with h|⟨c,h1,h2,h3,h4⟩
 ·exact .inl h
 ·exact .inr ⟨c,h1,h2,by rw[h3,e],h4⟩
theorem hopL_lt {line:Int} {r:List Int} (h:0≤hopL line r):(hopL line r).toNat<r.length∧(((hopL line r).toNat:Nat):Int)=hopL line r:=by
 unfold hopL at h ⊢
 by_cases hm:line∈r
 ·rw[if_pos hm]
  exact⟨by have:=List.idxOf_lt_length_of_mem hm;omega,by omega⟩
 ·rw[if_neg hm] at h;omega
def atC (fs:List FlM) (ds:List Sl) (line:Int) (u:Nat):Cv × Int:=aheadC (nth fs u).f.cv (befS ds (nth fs u).f.cls ((nth fs u).f.route.take (hopL line (nth fs u).f.route).toNat)).toNat
def clsStep (fs:List FlM) (ds:List Sl) (line:Int) (acc:Cv) (u:Nat):Cv × Int:=if (atC fs ds line u).2≠0 then (zcv,(atC fs ds line u).2) else sumC acc (atC fs ds line u).1
def clsGo (fs:List FlM) (ds:List Sl) (line:Int) (acc:Cv):List Int→Cv × Int
  | []=>(acc,0)
  | u::r=>if (clsStep fs ds line acc u.toNat).2≠0 then (zcv,(clsStep fs ds line acc u.toNat).2) else clsGo fs ds line (clsStep fs ds line acc u.toNat).1 r
def foldGo (G:Cv→Int→Cv × Int) (acc:Cv):List Int→Cv × Int
  | []=>(acc,0)
  | u::r=>if (G acc u).2≠0 then (zcv,(G acc u).2) else foldGo G (G acc u).1 r
theorem fold_cls (fs:List FlM) (ds:List Sl) (line:Int):∀ (l:List Int) (acc:Cv),foldGo (fun a u=>clsStep fs ds line a u.toNat) acc l=clsGo fs ds line acc l
 | [],_=>rfl
 | u::r,acc=>by
  unfold foldGo clsGo
  rw[fold_cls fs ds line r]
theorem membL_mem {fs:List FlM} {line cls x:Int} {n:Nat} (h:x∈membL fs cls (usersL fs line n)):∃ u:Nat,x=(u:Int)∧u<n∧0≤hopL line (nth fs u).f.route:=by
 have h1:=(List.mem_filter.1 h).1
 unfold usersL at h1
 obtain⟨i,hi,he⟩:=List.mem_filterMap.1 h1
 by_cases hc:0≤hopL line (nth fs i).f.route
 ·rw[if_pos hc] at he
  cases he
  exact⟨i,rfl,List.mem_range.1 hi,hc⟩
 ·rw[if_neg hc] at he;cases he
theorem clsStep_valid {fs:List FlM} {ds:List Sl} {line:Int} {acc:Cv} {u:Nat} (hva:validB acc=true) (hv:validB (nth fs u).f.cv=true) (hf:finB (nth fs u).f.cv=true) (hd:(befS ds (nth fs u).f.cls ((nth fs u).f.route.take (hopL line (nth fs u).f.route).toNat)).toNat≤2000) (he:(clsStep fs ds line acc u).2=0):validB (clsStep fs ds line acc u).1=true:=by
 unfold clsStep at he ⊢
 by_cases h0:(atC fs ds line u).2≠0
 ·rw[if_pos h0] at he;exact absurd he h0
 ·rw[if_neg h0] at he ⊢
  have hvt:validB (atC fs ds line u).1=true:=by
   rcases ahead_res hv hf hd with h|⟨c,h1,h2,_,_⟩
   ·have h:atC fs ds line u=(zcv,3):=h
    rw[h] at h0;exact absurd (by decide) h0
   ·have h1:atC fs ds line u=(c,0):=h1
    rw[h1];exact h2.valid
  rcases sum_res hva hvt with h|⟨c,h1,h2,_⟩
  ·rw[h] at he;exact absurd he (by decide)
  ·rw[h1];exact h2.valid
def minF (f:Nat→Int) (s:Nat):Nat→Int
  | 0=>f s
  | d+1=>min (minF f s d) (f (s+(d+1)))
section
variable {f:Nat→Int} {s a:Nat} {D:Int}
end
def rawG (b o:Cv) (th u:Nat):Int:=if isInf o (u - th) then 0 else if isInf b u then INF else cvF b u - cvF o (u - th)
def driftG (b o:Cv):Int:=gainC b (lcmC b o) - gainC o (lcmC b o)
def frG (b o:Cv) (th:Nat):Nat:=max (max (stN b) (stN o+th)) (th+1)
def hG (b o:Cv) (th u:Nat):Int:=if u≤th then 0 else max 0 (minF (rawG b o th) u (max (frG b o th) u - u+(lcmC b o - 1)))
section
variable {b o:Cv} {th:Nat}
theorem lcm_pos (hb:validB b=true) (ho:validB o=true):0<lcmC b o:=by
 obtain⟨_,_,_,q1,_⟩:=valid_range hb
 obtain⟨_,_,_,q2,_⟩:=valid_range ho
 exact(lcm_mod (by omega) (by omega)).2.2
theorem gain_grows (hb:validB b=true) (fb:finB b=true) {L:Nat} (hL:L % b.per.toNat=0):Grows (cvF b) (stN b) L (gainC b L):=by
 rcases valid_cases hb with ⟨S1,P1,_,l1,p1,fc1,_⟩|⟨_,_,_,_,_,_,_,f⟩
 ·have hP1:=fc1.hP
  have hs:stN b=S1:=by unfold stN;rw[l1,p1,Int.toNat_natCast];omega
  rw[p1,Int.toNat_natCast] at hL
  unfold gainC
  rw[hs,p1]
  exact grows_gain (by omega) fc1.hg hL
 ·rw[fb] at f;cases f
def flatB (b o:Cv) (th:Nat):Prop:=finB o=false∨(finB b=true∧(driftG b o<0∨(driftG b o=0∧minF (rawG b o th) (frG b o th) (lcmC b o - 1)≤0)))
instance (b o:Cv) (th:Nat):Decidable (flatB b o th):=by unfold flatB;infer_instance
def leftG (b o:Cv) (th u:Nat):Int:=if u≤th then 0 else max 0 (rawG b o th u)
def bothB (b o:Cv):Prop:=finB b=true∧finB o=true
instance (b o:Cv):Decidable (bothB b o):=by unfold bothB;infer_instance
def flatQ (b o:Cv) (th:Nat):Prop:=(bothB b o∧driftG b o<0)∨finB o=false∨(bothB b o∧driftG b o=0∧minF (leftG b o th) (th+400) (lcmC b o - 1)=0)
instance (b o:Cv) (th:Nat):Decidable (flatQ b o th):=by unfold flatQ;infer_instance
end
def reachG (c:Cv) (v:Int):Int × Bool :=
  if findFrom (fun t=>decide (cvF c t≥v)) c.vals.length 0≠-1 then (findFrom (fun t=>decide (cvF c t≥v)) c.vals.length 0,true)
  else if v=INF∨c.inc=0 then (0,false)
  else (findFrom (fun t=>decide (cvF c t≥v)) (c.per.toNat+1) (c.vals.length+(((v - cvF c (c.vals.length - 1)+c.inc - 1) / c.inc).toNat - 1)*c.per.toNat),true)
structure IsFirst (F:Nat→Int) (v:Int) (r:Int × Bool):Prop where
  yes:r.2=true→∃ t:Nat,r.1=t∧v≤F t∧∀ j,j<t→F j<v
  no:r.2=false→r.1=0∧∀ t,F t<v
theorem reachG_F {c:Cv} {S P:Nat} (hl:c.vals.length=S+P) (hp:c.per=P) {v:Int} (hv:v≠INF):reachG c v=reachF (cvF c) S P c.inc v:=by
 have e:(v=INF∨c.inc=0)↔c.inc=0:=⟨fun h=>h.resolve_left hv,.inr⟩
 unfold reachG reachF
 rw[hl,hp,Int.toNat_natCast]
 simp only[e]
theorem reachG_fin {c:Cv} (hv:validB c=true) (hf:finB c=true) {v:Int} (h:v≠INF):IsFirst (cvF c) v (reachG c v):=by
 rcases valid_cases hv with ⟨S,P,_,hl,hp,hfc,_⟩|⟨_,_,_,_,_,_,_,f⟩
 ·rw [reachG_F hl hp h]
  have hP:=hfc.hP
  unfold reachF
  rcases findFrom_cases (fun t=>decide (cvF c t≥v)) (S+P) 0 with ⟨i,h1,h2,h3,h4,h5⟩|⟨h1,h2⟩
  ·rw[h3,if_pos (by omega)]
   exact⟨fun _=>⟨i,rfl,of_decide_eq_true h4,fun j hj=>by have:=of_decide_eq_false (h5 j (Nat.zero_le _) hj);omega⟩,fun hh=>by cases hh⟩
  ·have hlow:∀ j,j<S+P→cvF c j<v:=fun j hj=>by have:=of_decide_eq_false (h2 j (Nat.zero_le _) (by omega));omega
   rw[h1,if_neg (fun hh=>hh rfl)]
   by_cases hI:c.inc=0
   ·rw[if_pos hI]
    refine⟨fun hh=>(by cases hh),fun _=>⟨rfl,fun t=>?_⟩⟩
    induction t using Nat.strongRecOn with
    | _ t ih =>
     by_cases ht:t<S+P
     ·exact hlow t ht
     ·have a:=ih (t - P) (by omega)
      have b:=hfc.hg (t - P) (by omega)
      rw[show t - P+P=t by omega,hI] at b
      omega
   ·rw [if_neg hI]
    obtain⟨g1,g2,g3,g4⟩:=reach_facts hfc hI (hlow (S+P - 1) (by omega))
    rcases findFrom_cases (fun t=>decide (cvF c t≥v)) (P+1) (S+P+(((v - cvF c (S+P - 1)+c.inc - 1) / c.inc).toNat - 1)*P) with ⟨i,k1,k2,k3,k4,k5⟩|⟨k1,k2⟩
    ·rw[k3]
     refine⟨fun _=>⟨i,rfl,of_decide_eq_true k4,fun j hj=>?_⟩,fun hh=>by cases hh⟩
     obtain⟨k,hk⟩:=Int.eq_ofNat_of_zero_le (show 0≤(v - cvF c (S+P - 1)+c.inc - 1) / c.inc by omega)
     rw[hk] at g1 g2
     rw[hk,Int.toNat_natCast] at k5
     by_cases hj2:j<S+P+(k - 1)*P
     ·have a:=hfc.mono (show j≤S+P - 1+(k - 1)*P by omega)
      have b:=hfc.hg.mul (k - 1) (S+P - 1) (by omega)
      have e:((k - 1:Nat):Int)*c.inc=(k:Int)*c.inc - c.inc:=by
       rw[show ((k - 1:Nat):Int)=(k:Int) - 1 by omega,Int.sub_mul];simp
      rw[e] at b
      omega
     ·have:=of_decide_eq_false (k5 j (by omega) hj);omega
    ·have:=of_decide_eq_false (k2 (S+P+(((v - cvF c (S+P - 1)+c.inc - 1) / c.inc).toNat - 1)*P+(P - 1)) (by omega) (by omega))
     omega
 ·rw[hf] at f;cases f
theorem reachG_inf {c:Cv} (hv:validB c=true) (hf:finB c=false) {v:Int} (h:v≤INF):IsFirst (cvF c) v (reachG c v)∧(reachG c v).2=true∧(reachG c v).1≤stN c:=by
 obtain⟨n,h1,h2,h3⟩:=inf_at hv hf
 have hs:=stN_lt hv
 unfold reachG
 rcases findFrom_cases (fun t=>decide (cvF c t≥v)) c.vals.length 0 with ⟨i,k1,k2,k3,k4,k5⟩|⟨k1,k2⟩
 ·have hin:i≤n:=by
   apply Classical.byContradiction
   intro hh
   have:=of_decide_eq_false (k5 n (Nat.zero_le _) (by omega))
   rw[h3.hi n (Nat.le_refl _)] at this
   omega
  rw[k3,if_pos (by omega)]
  exact⟨⟨fun _=>⟨i,rfl,of_decide_eq_true k4,fun j hj=>by have:=of_decide_eq_false (k5 j (Nat.zero_le _) hj);omega⟩,fun hh=>by cases hh⟩,rfl,by dsimp only;omega⟩
 ·have:=of_decide_eq_false (k2 n (Nat.zero_le _) (by omega))
  rw[h3.hi n (Nat.le_refl _)] at this
  omega
theorem reachG_none {c:Cv} (hv:validB c=true) (hf:finB c=true):reachG c INF=(0,false):=by
 rcases valid_cases hv with ⟨S,P,_,hl,hp,hfc,_⟩|⟨_,_,_,_,_,_,_,f⟩
 ·unfold reachG
  rw[show findFrom (fun t=>decide (cvF c t≥INF)) c.vals.length 0=-1 from findFrom_none (fun j _ hj=>decide_eq_false (by have:=hfc.hb j (by omega);unfold INF;omega)),if_neg (fun hh=>hh rfl),if_pos (.inl rfl)]
 ·rw[hf] at f;cases f
theorem reachG_bound {c:Cv} (hv:validB c=true) {v:Int} (h:v=INF∨(0≤v∧v≤1000000000000000)):-1≤(reachG c v).1∧(reachG c v).1≤200000000000000000:=by
 cases hf:finB c with
 | false =>
  obtain⟨h1,h2,h3⟩:=reachG_inf hv hf (v:=v) (by unfold INF at *;omega)
  obtain⟨t,e,_⟩:=h1.yes h2
  have:=stN_lt hv
  omega
 | true =>
  rcases h with rfl|h
  ·rw[reachG_none hv hf];decide
  ·rcases valid_cases hv with ⟨S,P,_,hl,hp,hfc,_⟩|⟨_,_,_,_,_,_,_,f⟩
   ·rw[reachG_F hl hp (by unfold INF;omega)]
    exact reach_bound hfc h
   ·rw[hf] at f;cases f
def loose (a b:Cv):Prop:=finB b=true∧(finB a=false∨gainC b (lcmC a b)<gainC a (lcmC a b))
instance (a b:Cv):Decidable (loose a b):=by unfold loose;infer_instance
def fastQ (a b:Cv):Prop:=finB a=true∧finB b=true∧0<gainC a (lcmC a b) - gainC b (lcmC a b)
instance (a b:Cv):Decidable (fastQ a b):=by unfold fastQ;infer_instance
def gapD (a b:Cv) (t:Nat):Int × Bool:=((reachG b (cvF a t)).1 - t,(reachG b (cvF a t)).2)
def devN (a b:Cv) (f:Nat→Int × Bool):(Bool × Int × Int) × Int :=
  if 120<lcmC a b then ((false,0,0),3) else if loose a b then ((true,0,0),0) else (greatW f (max (stN a) (stN b)+lcmC a b) 0 0 0,0)
section
variable {a b:Cv}
theorem cvF_le (hv:validB a=true) {s t:Nat} (h:s≤t):cvF a s≤cvF a t:=mono_le (cvF_mono hv) h
theorem gains (ha:validB a=true) (hb:validB b=true) (fa:finB a=true) (fb:finB b=true):Grows (cvF a) (stN a) (lcmC a b) (gainC a (lcmC a b))∧Grows (cvF b) (stN b) (lcmC a b) (gainC b (lcmC a b)):=by
 obtain⟨_,_,_,q1,_⟩:=valid_range ha
 obtain⟨_,_,_,q2,_⟩:=valid_range hb
 obtain⟨m1,m2,_⟩:=lcm_mod (a:=a.per.toNat) (b:=b.per.toNat) (by omega) (by omega)
 exact⟨gain_grows ha fa m1,gain_grows hb fb m2⟩
theorem cvF_low15 (ha:validB a=true) {u:Nat} (hu:u≤100000):cvF a u=INF∨(0≤cvF a u∧cvF a u≤1000000000000000):=by
 have:=cvF_bound ha u
 rcases this.2 with h|h
 ·exact .inl h
 ·right;omega
theorem fin_ne (ha:validB a=true) (fa:finB a=true) {u:Nat} (hu:u≤100000):cvF a u≠INF:=fun h=>isInf_fin fa u ((isInf_iff ha (by omega)).2 h)
theorem delay_snd (ha:validB a=true) (hb:validB b=true) (fa:finB a=true) (fb:finB b=true) {v p:Int} (h:devN a b (gapD a b)=((false,v,p),0)):0≤v∧v≤1000000000000000000∧∀ u,cvF a u≤cvF b (u+v.toNat):=by
 have s1:=stN_lt ha
 have s2:=stN_lt hb
 unfold devN at h
 by_cases hl:120<lcmC a b
 ·rw[if_pos hl] at h;exact absurd (show (3:Int)=0 from congrArg Prod.snd h) (by decide)
 rw[if_neg hl] at h
 by_cases hlo:loose a b
 ·rw[if_pos hlo] at h;exact absurd (show true=false from congrArg (fun x=>x.1.1) h) (by decide)
 rw[if_neg hlo] at h
 have hg:gainC a (lcmC a b)≤gainC b (lcmC a b):=by
  apply Classical.byContradiction
  intro h;exact hlo ⟨fb,.inr (by omega)⟩
 have hw:greatW (gapD a b) (max (stN a) (stN b)+lcmC a b) 0 0 0=(false,v,p):=congrArg Prod.fst h
 have hsd:=greatW_sound (f:=gapD a b) (max (stN a) (stN b)+lcmC a b) 0 0 0 (by rw[hw])
 have hbd:=greatW_bound (f:=gapD a b) (B:=1000000000000000000) (max (stN a) (stN b)+lcmC a b) 0 0 0 (fun u u1 u2=>by
  have:=(reachG_bound hb (cvF_low15 ha (show u≤100000 by omega))).2
  unfold gapD;dsimp only;omega) (by decide) (by decide) (by decide) (by decide)
 rw[hw] at hsd hbd
 dsimp only at hsd hbd
 obtain⟨g1,g2⟩:=gains ha hb fa fb
 have hl0:=lcm_pos ha hb
 refine⟨hbd.1,hbd.2.1,fun u=>?_⟩
 induction u using Nat.strongRecOn with
 | _ u ih =>
  by_cases h1:u<max (stN a) (stN b)+lcmC a b
  ·obtain⟨i1,i2⟩:=hsd.2 u (Nat.zero_le _) (by omega)
   unfold gapD at i1 i2
   dsimp only at i1 i2
   obtain⟨r,e,r1,_⟩:=(reachG_fin hb fb (fin_ne ha fa (show u≤100000 by omega))).yes i1
   exact Int.le_trans r1 (cvF_le hb (by omega))
  ·have i:=ih (u - lcmC a b) (by omega)
   have a1:=g1 (u - lcmC a b) (by omega)
   have a2:=g2 (u - lcmC a b+v.toNat) (by omega)
   rw[show u - lcmC a b+lcmC a b=u by omega] at a1
   rw[show u - lcmC a b+v.toNat+lcmC a b=u+v.toNat by omega] at a2
   omega
end
def abvI (a b:Cv) (t:Nat):Int:=if cvF a t=INF∨cvF b t=INF then (if cvF b t=INF then 0 else 1) else cvF a t - cvF b t
def winN (a b:Cv):Nat:=if a.vals.length<b.vals.length then b.vals.length else a.vals.length
def noneAbv (a b:Cv):Prop:=∀ t,t<winN a b+lcmC a b→abvI a b t≤0
instance (a b:Cv):Decidable (noneAbv a b):=by unfold noneAbv;infer_instance
section
variable {a b:Cv}
theorem gains_le (ha:validB a=true) (hb:validB b=true) (fa:finB a=true) (fb:finB b=true) {d:Nat} (h:∀ t,cvF a t≤cvF b (t+d)):gainC a (lcmC a b)≤gainC b (lcmC a b):=by
 obtain⟨g1,g2⟩:=gains ha hb fa fb
 have:=grows_le (F:=cvF a) (G:=fun t=>cvF b (t+d)) g1 (S2:=stN b) (P2:=lcmC a b) (I2:=gainC b (lcmC a b)) (fun t ht=>by
  have:=g2 (t+d) (by omega)
  dsimp only
  rw[show t+lcmC a b+d=t+d+lcmC a b by omega];exact this) h (l:=lcmC a b) (a1:=1) (a2:=1) (by omega) (by omega)
 omega
theorem delay_mono (ha:validB a=true) (hb:validB b=true) (fa:finB a=true) (fb:finB b=true) {d:Nat} (h:∀ u,cvF a u≤cvF b (u+d)) (h0:(devN a b (gapD a b)).2=0):∃ v p,devN a b (gapD a b)=((false,v,p),0)∧v≤d:=by
 have s1:=stN_lt ha
 have s2:=stN_lt hb
 have hgl:=gains_le ha hb fa fb h
 unfold devN at h0 ⊢
 by_cases hl:120<lcmC a b
 ·rw[if_pos hl] at h0;exact absurd h0 (show ¬ (3:Int)=0 by decide)
 rw[if_neg hl]
 have hlo:¬ loose a b:=by
  rintro⟨_,h1|h1⟩
  ·rw[fa] at h1;cases h1
  ·omega
 rw[if_neg hlo]
 have hgap:∀ u,u≤100000→(gapD a b u).2=true∧(gapD a b u).1≤d:=fun u hu=>by
  have hf:=reachG_fin hb fb (fin_ne ha fa hu)
  unfold gapD
  dsimp only
  cases h1:(reachG b (cvF a u)).2 with
  | false=>have:=(hf.no h1).2 (u+d);have:=h u;omega
  | true =>
   refine⟨rfl,?_⟩
   obtain⟨r,e,r1,r2⟩:=hf.yes h1
   rw[e]
   apply Classical.byContradiction
   intro hn
   have:=r2 (u+d) (by omega)
   have:=h u
   omega
 have hnt:(greatW (gapD a b) (max (stN a) (stN b)+lcmC a b) 0 0 0).1=false:=by
  have:∀ (n t:Nat) (v q:Int),t+n≤100000→(greatW (gapD a b) n t v q).1=false:=by
   intro n
   induction n with
   | zero=>intro t v q _;rfl
   | succ n ih =>
    intro t v q ht
    unfold greatW
    rw[if_neg (by rw[(hgap t (by omega)).1];decide)]
    split
    ·exact ih _ _ _ (by omega)
    ·exact ih _ _ _ (by omega)
  exact this _ _ _ _ (by omega)
 have hbd:=greatW_bound (f:=gapD a b) (B:=(d:Int)) (max (stN a) (stN b)+lcmC a b) 0 0 0 (fun u u1 u2=>(hgap u (by omega)).2) (by decide) (by omega) (by decide) (by decide)
 exact⟨_,_,by rw[← hnt],hbd.2.1⟩
end
def mostF (f:Nat→Int):Nat→Int
  | 0=>0
  | n+1=>max (mostF f n) (f n)
def tailF (f:Nat→Int) (s:Nat):Nat→Int
  | 0=>f s
  | d+1=>max (tailF f s d) (f (s+(d+1)))
section
variable {f:Nat→Int} {s P:Nat} {D:Int}
end
def rawL (cap:Int) (b:Cv) (t:Nat):Int:=if isInf b t then 0 else cap*(t:Int) - cvF b t
def restF (cap:Int) (b:Cv) (t:Nat):Int:=mostF (rawL cap b) (t+1)
def driftL (cap:Int) (b:Cv):Int:=b.per*cap - b.inc
def restC (cap : Int) (g : Cv) : Cv × Int :=
  if validB g=false then (zcv,1)
  else if finB (normR g)=true∧0<driftL cap (normR g) then
    (if tailF (rawL cap (normR g)) (stN (normR g)) (400 - stN (normR g))<mostF (rawL cap (normR g)) (stN (normR g)) then (zcv,3) else mbuild (restF cap (normR g)) 400 (normR g).per.toNat (driftL cap (normR g)))
  else mbuild (restF cap (normR g)) (stN (normR g)+(normR g).per.toNat) 1 0
section
variable {cap:Int} {b:Cv}
end
def lineC (cap:Int):Cv:=⟨[0],1,cap⟩
theorem line_facts {cap:Int} (hc:0≤cap∧cap≤1073741824):Nrm (lineC cap)∧cvF (lineC cap)=(fun t:Nat=>cap*(t:Int))∧finB (lineC cap)=true∧stN (lineC cap)=0:=by
 have hfc:=fc_line (c:=cap) hc
 have e0:fvals (fun t:Nat=>cap*(t:Int)) (0+1)=[0]:=by simp[fvals]
 have hv:=hfc.valid'
 rw[e0] at hv
 have hn:normR ⟨[0],1,cap⟩=⟨[0],1,cap⟩:=by
  obtain⟨s,p,q,h1,h2,h3,h4,_,h6⟩:=hfc.norm
  have hp:=h2.hP
  obtain rfl:s=0:=by omega
  obtain rfl:p=1:=by omega
  rw[e0] at h1
  have hq:q=cap:=by rw[h6];simp
  rw[hq] at h1
  exact h1
 have hcv:cvF ⟨[0],1,cap⟩=fun t:Nat=>cap*(t:Int):=by
  have:=cvF_fc hfc
  rw[e0] at this;exact this
 exact⟨⟨hv,hn⟩,hcv,rfl,rfl⟩
def tailV (f:Nat→Int) (s t:Nat):Int:=if t≤s then -INF else tailF f s (t - 1 - s)
def xSum (k:Int) (w:List Int) (z:List Sz):Nat→Int
  | 0=>0
  | n+1=>xSum k w z n+(if (n:Int)≠k∧1≤(nth z n).most then nth w n else 0)
def zSum (k:Int) (z:List Sz):Nat→Int
  | 0=>0
  | n+1=>zSum k z n+(if (n:Int)≠k∧1≤(nth z n).most then (nth z n).most - 1 else 0)
def allD (s q l z y:Int):Int:=y+(s - q)*((y+l - 1) / q+1)+z
def defH (cap s q l z:Int) (t y:Nat):Bool:=decide (allD s q l z (y:Int)≥cap*t)
def defFn (cap s q l z:Int) (t:Nat):Int:=leastY (defH cap s q l z t) (cap*t).toNat
def fromD (cap s q l z:Int):Int:=((s - q)*((l - 1) / q+1)+z) / cap+1
def defC (cap k : Int) (w : List Int) (z : List Sz) : Cv × Int :=
  if chkW 6000 cap k w z≠0 then (zcv,chkW 6000 cap k w z) else if (nth z k.toNat).most<1 then (zcv,5) else
    let q:=nth w k.toNat
    let l:=(nth z k.toNat).most
    let s:=shortN (q+xSum k w z w.length).toNat cap.toNat
    let zz:=zSum k z w.length
    if s=-1 then (zcv,3) else
      let p:=s.toNat / Nat.gcd s.toNat cap.toNat
      if 400<fromD cap s q l zz then (zcv,3)
      else madeR ⟨fvals (defFn cap s q l zz) ((fromD cap s q l zz).toNat+p),p,cap*p / s*q⟩
section
variable {cap s q l z:Int}
end
def blkF (cls:Int) (z:List Sz) (i:Nat):Int:=(nth (z.drop (cls+1).toNat) i).most - 1
def blkN (cls:Int) (z:List Sz):Int:=mostF (blkF cls z) (z.length - (cls+1).toNat)
def allV (ls:List Cv):Bool:=ls.all fun c=>validB c
def midC (tot:Cv × Int) (k:Int):Cv × Int:=if tot.2=0 then raiseC tot.1 k else tot
def prioC (cap cls:Int) (ls:List Cv) (z:List Sz):Cv × Int :=
  if chk18 cap cls z≠0 then (zcv,chk18 cap cls z)
  else if ls.length≠z.length then (zcv,2)
  else if allV ls=false then (zcv,1)
  else if (midC (totalC (ls.take cls.toNat)) (blkN cls z)).2≠0 then (zcv,(midC (totalC (ls.take cls.toNat)) (blkN cls z)).2)
  else restC cap (midC (totalC (ls.take cls.toNat)) (blkN cls z)).1
def begK (k:Int):List Pkt→List Bool→Int
  | p::ps,b::bs=>(if b=true∧p.flow=k then p.size else 0)+begK k ps bs
  | _,_=>0
def Cl {σ:Type} (ps:List Pkt) (k:Nat) (col:Nat) (s:RS σ):Prop :=
  nth (nth s.sent k) col=begK k ps s.ms.begun - (if 0≤s.cur∧(nth ps s.cur.toNat).flow=k then s.rest else 0)
section
variable {σ:Type} {ps:List Pkt} {ch:MS→σ→Int × Nat × σ} {good:MS→σ→Prop} {rel:Nat→Nat→Prop} {classes col k:Nat} {s:RS σ} {J:σ→Int→Int→Int→Int→Prop}
end
section
variable {w:List Int} {z:List Sz} {k:Nat}
end
section
variable {σ:Type} {ps:List Pkt} {ch:MS→σ→Int × Nat × σ} {good:MS→σ→Prop} {rel:Nat→Nat→Prop} {classes k:Nat} {V:σ→Int→Int→Prop}
end
section
variable {ps:List Pkt} {w:List Int} {z:List Sz} {k:Nat}
end
section
variable {σ:Type} {ps:List Pkt} {ch:MS→σ→Int × Nat × σ} {good:MS→σ→Prop} {rel:Nat→Nat→Prop} {classes k:Nat}
end
theorem pbytes_congr {flow t t':Int}:∀ (ps:List Pkt),(∀ p∈ps,p.time<t↔p.time<t')→pbytes flow t ps=pbytes flow t' ps
 | [],_=>rfl
 | p::ps,h=>by
  have h1:=h p (by simp)
  have ih:=pbytes_congr (flow:=flow) ps (fun q hq=>h q (by simp[hq]))
  simp only[pbytes]
  rw[ih]
  congr 1
  have e:hit flow t p↔hit flow t' p:=by unfold hit;rw[h1]
  by_cases hh:hit flow t p
  ·rw[if_pos hh,if_pos (e.1 hh)]
  ·rw[if_neg hh,if_neg (fun h2=>hh (e.2 h2))]
theorem nth_up {vs:List Int} {en:Nat} (hm:∀ j,j<en→nth vs j≤nth vs (j+1)) {a b:Nat} (hab:a≤b) (hb:b≤en):nth vs a≤nth vs b:=by
  induction b with
  | zero => obtain rfl : a = 0 := by omega
            exact Int.le_refl _
  | succ b ih =>
    by_cases e:a=b+1
    · subst e;exact Int.le_refl _
    · have h1:=ih (by omega) (by omega)
      have h2:=hm b (by omega)
      omega
theorem keeps {ps:List Pkt} {flow:Int} (hsort:ps.Pairwise fun a b=>a.time≤b.time) {en:Nat} (hen:∀ p∈ps,0≤p.time∧p.time<en) {vs:List Int} (h0:∀ j,j≤en→0≤nth vs j) (hm:∀ j,j<en→nth vs j≤nth vs (j+1))
  (hP:∀ i,i<ps.length→∀ T t:Nat,(nth ps i).time=T→T≤t→t≤en→pbytes flow (t:Int) ps - pbytes flow (T:Int) ps≤nth vs (t - T)) {x t:Nat} (hxt:x≤t):pbytes flow (t:Int) ps - pbytes flow (x:Int) ps≤nth vs (min (t - x) en):=by
 have hnn:=h0 (min (t - x) en) (by omega)
 by_cases hex:∃ i,i<ps.length∧(x:Int)≤(nth ps i).time∧(nth ps i).time<t
 ·obtain⟨i0,i1,i2,i3⟩:=hex
  rcases findFrom_cases (fun i=>decide ((x:Int)≤(nth ps i).time)) ps.length 0 with ⟨j,j1,j2,_,j4,j5⟩|⟨_,h2⟩
  ·have j4:=of_decide_eq_true j4
   have hji:j≤i0:=by
    apply Classical.byContradiction
    intro hn
    have:=of_decide_eq_false (j5 i0 (Nat.zero_le _) (by omega))
    exact this i2
   have hle:∀ i,j≤i→i<ps.length→(nth ps j).time≤(nth ps i).time:=fun i h1 h2=>by
    by_cases e:j=i
    ·subst e;exact Int.le_refl _
    ·have:=List.pairwise_iff_getElem.1 hsort j i (by omega) h2 (by omega)
     rwa [← nth_eq (show j<ps.length by omega),← nth_eq h2] at this
   have hj:=hen _ (nth_mem (xs:=ps) (k:=j) (by omega))
   obtain⟨T,hT⟩:=Int.eq_ofNat_of_zero_le hj.1
   have hTi:=hle i0 hji i1
   have e1:pbytes flow (x:Int) ps=pbytes flow (T:Int) ps:=by
    refine pbytes_congr ps (all_of_nth (fun i hi=>?_))
    constructor
    ·intro h;omega
    ·intro h
     apply Classical.byContradiction
     intro hn
     by_cases hij:i<j
     ·have:=of_decide_eq_false (j5 i (Nat.zero_le _) hij)
      omega
     ·have:=hle i (by omega) hi
      omega
   have e2:pbytes flow (t:Int) ps=pbytes flow ((min t en:Nat):Int) ps:=by
    refine pbytes_congr ps (fun p hp=>?_)
    have:=hen p hp
    omega
   have h3:=hP j (by omega) T (min t en) hT (by omega) (by omega)
   have h4:=nth_up hm (a:=min t en - T) (b:=min (t - x) en) (by omega) (by omega)
   omega
  ·exact absurd i2 (of_decide_eq_false (h2 i0 (Nat.zero_le _) (by omega)))
 ·have e:pbytes flow (t:Int) ps=pbytes flow (x:Int) ps:=by
   refine pbytes_congr ps (all_of_nth (fun i hi=>?_))
   constructor
   ·intro h
    apply Classical.byContradiction
    intro hn
    exact hex ⟨i,hi,by omega,h⟩
   ·intro h;omega
  omega
section
variable {σ:Type} {ps:List Pkt} {ch:MS→σ→Int × Nat × σ} {good:MS→σ→Prop} {rel:Nat→Nat→Prop} {classes col k:Nat} {s:RS σ}
end
section
variable {nx sz:Int→Int} {w:List Int} {z:List Sz} {k:Nat}
end
section
variable {ps:List Pkt} {w:List Int} {z:List Sz} {k:Nat}
end
section
variable {σ:Type} {ps:List Pkt} {ch:MS→σ→Int × Nat × σ} {good:MS→σ→Prop} {classes k:Nat}
end
section
variable {ps:List Pkt} {cap:Int} {tb:List Int} {classes:Nat}
end
def slotS (cap lost:Int) (mine:Nat→Bool) (from_:Nat):Nat→Int × Int
  | 0=>(0,0)
  | d+1=>if mine (from_+d)=true then ((slotS cap lost mine from_ d).1,(slotS cap lost mine from_ d).2+cap) else ((slotS cap lost mine from_ d).1+max 0 ((slotS cap lost mine from_ d).2 - lost),0)
def cntS (cap lost:Int) (mine:Nat→Bool) (from_ k:Nat):Int:=(slotS cap lost mine from_ k).1+max 0 ((slotS cap lost mine from_ k).2 - lost)
def minN (f:Nat→Int):Nat→Int
  | 0=>f 0
  | n+1=>min (minN f n) (f n)
def slotF (cap lost:Int) (mine:Nat→Bool) (n:Nat) (k:Nat):Int:=minN (fun a=>cntS cap lost mine a k) n
section
variable {cap lost:Int} {mine:Nat→Bool} {a:Nat}
end
def mineT (tb:List Int) (k:Int) (t:Nat):Bool:=slotT tb t == k
section
variable {ps:List Pkt} {cap:Int} {tb:List Int} {classes k:Nat}
end
def chkT (cap cls:Int) (tb:List Int) (z:List Sz):Int:=if chk18 cap cls z≠0 then 2 else if okT z.length tb=false then 2 else 0
def someT (cls:Int) (tb:List Int):Bool:=tb.any fun c=>c == cls
def allT (cls:Int) (tb:List Int):Bool:=tb.all fun c=>c == cls
def lineF (cap lost:Int) (t:Nat):Int:=max 0 (cap*t - lost)
def slotC (cap cls : Int) (tb : List Int) (z : List Sz) : Cv × Int :=
  if chkT cap cls tb z≠0 then (zcv,chkT cap cls tb z)
  else if someT cls tb=false∨(nth z cls.toNat).most<1 then (zcv,5)
  else if allT cls tb=true then (if 400*cap<(nth z cls.toNat).most - 1 then (zcv,3) else madeR ⟨fvals (lineF cap ((nth z cls.toNat).most - 1)) 401,1,cap⟩)
  else madeR ⟨fvals (slotF cap ((nth z cls.toNat).most - 1) (mineT tb cls) tb.length) (3*tb.length+tb.length),tb.length,
    slotF cap ((nth z cls.toNat).most - 1) (mineT tb cls) tb.length (4*tb.length - 1) - slotF cap ((nth z cls.toNat).most - 1) (mineT tb cls) tb.length (3*tb.length - 1)⟩
section
variable {cap lost:Int}
variable {mine:Nat→Bool} {n:Nat}
end
def delayC (a b:Cv):(Bool × Int × Int) × Int:=devN (normR a) (normR b) (gapD (normR a) (normR b))
def waitL (v:Int):List Int:=(List.replicate (v+2).toNat 0).set (v+1).toNat INF
def waitC (v:Int):Cv × Int:=if v<0 then (zcv,2) else if 398<v then (zcv,3) else (⟨waitL v,1,0⟩,0)
def allC (cap:Int) (ls:List Cv):(Bool × Int × Int) × Int:=if (totalC ls).2≠0 then ((false,0,0),(totalC ls).2) else delayC (totalC ls).1 (lineC cap)
def fifoC (cap:Int) (ls:List Cv):Cv × Int:=if (allC cap ls).2≠0 then (zcv,(allC cap ls).2) else if (allC cap ls).1.1=true then (zcv,5) else waitC (allC cap ls).1.2.1
def argE (L:Ln) (cls:Int) (ls:List Cv) (z:List Sz):Int :=
  if chkL L≠0 then chkL L else if cls<0∨L.n≤cls∨(ls.length:Int)≠L.n∨(z.length:Int)≠L.n then 2 else if chk18 L.cap cls z≠0 then chk18 L.cap cls z else if ls.all validB=true then 0 else 1
def schedC (L:Ln) (cls:Int) (ls:List Cv) (z:List Sz):Cv × Int :=
  if L.kind=1 then fifoC L.cap ls else if L.kind=2 then prioC L.cap cls ls z else if L.kind=3 then robinC L.cap cls L.w z else if L.kind=4 then defC L.cap cls L.w z else slotC L.cap cls L.tb z
def curveL (L:Ln) (cls:Int) (ls:List Cv) (z:List Sz):Cv × Int:=if argE L cls ls z≠0 then (zcv,argE L cls ls z) else schedC L cls ls z
def devV (x:(Bool × Int × Int) × Int):Value:=.tuple #[.agg #[.bool x.1.1,.int .i64 x.1.2.1,.int .i64 x.1.2.2],.int .i64 x.2]
theorem total_valid {ls:List Cv} (h:∀ c∈ls,validB c=true) (h0:(totalC ls).2=0):validB (totalC ls).1=true:=by
 rcases total_res ls zeroC zero_nrm.valid zero_nrm h with e|⟨c,e,h2,_⟩
 ·rw[show totalC ls=(zcv,3) from e] at h0;cases h0
 ·rw[show totalC ls=(c,0) from e];exact h2.valid
section
variable {ps qs:List Pkt} {cap:Int} {tb:List Int} {classes k:Nat} {ix:Nat→Nat}
end
def sumUp (f:Nat→Int):Nat→Int
  | 0=>0
  | n+1=>sumUp f n+f n
theorem sumUp_front (f:Nat→Int):∀ n:Nat,sumUp f (n+1)=f 0+sumUp (fun i=>f (i+1)) n
 | 0=>by simp[sumUp]
 | n+1=>by
  have h:=sumUp_front f n
  have e1:sumUp f (n+1+1)=sumUp f (n+1)+f (n+1):=rfl
  have e2:sumUp (fun i=>f (i+1)) (n+1)=sumUp (fun i=>f (i+1)) n+f (n+1):=rfl
  omega
section
variable {σ:Type} {ps:List Pkt} {ch:MS→σ→Int × Nat × σ} {good:MS→σ→Prop} {rel:Nat→Nat→Prop} {classes col k:Nat} {s:RS σ}
end
section
variable {ps:List Pkt} {cap:Int} {tb:List Int} {classes:Nat}
end
section
variable {ps:List Pkt} {n k:Nat}
end
instance instCv:Inhabited Cv:=⟨zcv⟩
theorem total_cv:∀ (l:List Cv) (s c:Cv),validB s=true→finB s=true→(∀ f∈l,validB f=true∧finB f=true)→totalGo s l=(c,0)→finB c=true∧∀ t,cvF c t=cvF s t+sumUp (fun i=>cvF (nth l i) t) l.length
 | [],s,c,hv,hf,_,h=>by
  simp only[totalGo,Prod.mk.injEq,and_true] at h
  subst h
  exact⟨hf,fun t=>by simp[sumUp]⟩
 | f :: l, s, c, hv, hf, hl, h => by
  have hff:=hl f (by simp)
  simp only[totalGo] at h
  rcases sum_res hv hff.1 with e|⟨c1,e1,e2,e3,e4⟩
  ·rw[e,if_pos (by decide)] at h
   have:=congrArg Prod.snd h
   simp at this
  ·rw[e1,if_neg (by simp)] at h
   obtain⟨i1,i2⟩:=total_cv l c1 c e2.valid (e4 hf hff.2) (fun f hf=>hl f (by simp[hf])) h
   refine⟨i1,fun t=>?_⟩
   rw[i2 t,e3,List.length_cons,sumUp_front]
   obtain⟨_,n1,_,n2,_⟩:=norm_valid hv
   obtain⟨_,n3,_,n4,_⟩:=norm_valid hff.1
   have e5:plusF (normR s) (normR f) t=cvF s t+cvF f t:=by
    unfold plusF
    rw[if_neg (fun h=>h.elim (isInf_fin (by rw[n2];exact hf) t) (isInf_fin (by rw[n4];exact hff.2) t)),n1,n3]
   rw[e5]
   show _=cvF s t+(cvF f t+sumUp (fun i=>cvF (nth l i) t) l.length)
   omega
theorem zero_cv (t:Nat):cvF zeroC t=0:=by
 have:=(line_facts (cap:=0) (by decide)).2.1
 have e:cvF zeroC=fun t:Nat=>(0:Int)*(t:Int):=this
 rw[e];simp
def measL (D:Cv→Cv→(Bool × Int × Int) × Int) (L:Ln) (cls:Int) (ls:List Cv) (z:List Sz):(Bool × Int × Int) × Int :=
  if (curveL L cls ls z).2≠0 then ((false,0,0),(curveL L cls ls z).2) else D (nth ls cls.toNat) (curveL L cls ls z).1
def delayL (L:Ln) (cls:Int) (ls:List Cv) (z:List Sz):(Bool × Int × Int) × Int :=
  if L.kind≠1 then measL delayC L cls ls z else if argE L cls ls z≠0 then ((false,0,0),argE L cls ls z) else allC L.cap ls
structure Fo (len m:Nat) (s s':RS Unit):Prop where
  cur:s.cur=s'.cur
  rest:s.rest=s'.rest
  done:s.done=s'.done++List.replicate (len - m) (-1)
  dlen:s'.done.length=m
  sent:s.sent=s'.sent
  begun:s.ms.begun=s'.ms.begun++List.replicate (len - m) false
  blen:s'.ms.begun.length=m
  before:s.ms.before=s'.ms.before
  bm:s'.ms.before≤m
  now:s.ms.now=s'.ms.now
  left:s.ms.left=s'.ms.left
  lt:0≤s'.cur→s'.cur.toNat<m
section
variable {ps:List Pkt} {m:Nat} {s s':RS Unit}
end
def Fin (len:Nat) (s:RS Unit):Prop:=s.ms.begun.length=len∧s.done.length=len∧(∀ i,i<len→(s.cur=i∨nth s.ms.begun i=false)→nth s.done i=-1)∧(0≤s.cur→s.cur.toNat<len∧nth s.ms.begun s.cur.toNat=true)
section
variable {ps:List Pkt} {s s0:RS Unit}
end
section
variable {σ σ':Type} {n:Nat} {k N:Int} {m:Nat} {ps ps':List Pkt} {Sg:σ→σ'→Prop} {good:MS→σ→Prop} {ch:MS→σ→Int × Nat × σ} {ch':MS→σ'→Int × Nat × σ'} {s:RS σ} {s':RS σ'}
end
section
variable {n:Nat} {k N:Int} {m:Nat} {ps ps':List Pkt} {ms ms':MS}
end
section
variable {L:Ln} {ps:List Pkt} {t:Nat}
end
section
variable {σ:Type} {ps:List Pkt} {ch:MS→σ→Int × Nat × σ} {good:MS→σ→Prop} {classes:Nat}
end
section
variable {σ:Type} {ps:List Pkt} {ch:MS→σ→Int × Nat × σ} {good:MS→σ→Prop} {classes k:Nat}
end
theorem delayC_mono {a b a' b':Cv} (ha:validB a=true) (hb:validB b=true) (fa:finB a=true) (fb:finB b=true) (ha':validB a'=true) (hb':validB b'=true) (fa':finB a'=true) (fb':finB b'=true) (hA:∀ t,cvF a t≤cvF a' t) (hB:∀ t,cvF b' t≤cvF b t)
  (h0:(delayC a b).2=0) (h0':(delayC a' b').2=0):(delayC a' b').1.1=true∨((delayC a b).1.1=false∧(delayC a b).1.2.1≤(delayC a' b').1.2.1∧0≤(delayC a b).1.2.1):=by
 cases hi:(delayC a' b').1.1 with
 | true=>exact .inl rfl
 | false =>
  right
  obtain⟨a1,a2,_,a4,_⟩:=norm_valid ha
  obtain⟨b1,b2,_,b4,_⟩:=norm_valid hb
  obtain⟨c1,c2,_,c4,_⟩:=norm_valid ha'
  obtain⟨d1,d2,_,d4,_⟩:=norm_valid hb'
  have e:devN (normR a') (normR b') (gapD (normR a') (normR b'))=((false,(delayC a' b').1.2.1,(delayC a' b').1.2.2),0):=Prod.ext (Prod.ext hi rfl) h0'
  obtain⟨v1,v2,v3⟩:=delay_snd c1 d1 (by rw[c4];exact fa') (by rw[d4];exact fb') e
  have hu:∀ u,cvF (normR a) u≤cvF (normR b) (u+(delayC a' b').1.2.1.toNat):=fun u=>by
   have:=v3 u
   rw[c2,d2] at this
   rw[a2,b2]
   have:=hA u
   have:=hB (u+(delayC a' b').1.2.1.toNat)
   omega
  have h0n:(devN (normR a) (normR b) (gapD (normR a) (normR b))).2=0:=h0
  obtain⟨v,p,e2,hv⟩:=delay_mono a1 b1 (by rw[a4];exact fa) (by rw[b4];exact fb) hu h0n
  obtain⟨w1,_,_⟩:=delay_snd a1 b1 (by rw[a4];exact fa) (by rw[b4];exact fb) e2
  have e3:delayC a b=((false,v,p),0):=e2
  rw[e3]
  exact⟨rfl,by dsimp only;omega,w1⟩
section
variable {L:Ln} {k:Nat} {ls ls':List Cv} {z:List Sz}
end
def rwL (xs:List Int):List Sl:=xs.map fun x=>⟨none,0,[x]⟩
theorem rwL_nth (xs:List Int) {i:Nat} (hi:i<xs.length):nth (rwL xs) i=⟨none,0,[nth xs i]⟩:=by
 unfold rwL
 rw[nth_eq (by rw[List.length_map];exact hi),List.getElem_map,nth_eq hi]
theorem rwL_len (xs:List Int):(rwL xs).length=xs.length:=by unfold rwL;exact List.length_map _
theorem befS_cons (rows:List Sl) (cls:Int) (r:List Int) (a:Int):(r.map fun l=>nth (nth rows l.toNat).xs cls.toNat).foldl (· + ·) a=a+befS rows cls r:=by
 unfold befS
 generalize (r.map fun l=>nth (nth rows l.toNat).xs cls.toNat)=q
 have key:∀ (q:List Int) (a b:Int),q.foldl (· + ·) (a+b)=a+q.foldl (· + ·) b:=fun q=>by
  induction q with
  | nil=>intro a b;rfl
  | cons x q ih=>intro a b;rw[List.foldl_cons,List.foldl_cons,Int.add_assoc,ih]
 have:=key q a 0
 rw[Int.add_zero] at this
 exact this
theorem befS_congr {ds ds':List Sl} (h:∀ i,(nth ds i).xs=(nth ds' i).xs) (cls:Int) (r:List Int):befS ds cls r=befS ds' cls r:=by
 unfold befS
 have:(fun l:Int=>nth (nth ds l.toNat).xs cls.toNat)=fun l:Int=>nth (nth ds' l.toNat).xs cls.toNat:=funext fun l=>by rw[h]
 rw[this]
theorem atC_congr {ds ds':List Sl} (h:∀ i,(nth ds i).xs=(nth ds' i).xs) (fs:List FlM) (line:Int) (u:Nat):atC fs ds line u=atC fs ds' line u:=by
 unfold atC
 rw[befS_congr h]
theorem clsStep_congr {ds ds':List Sl} (h:∀ i,(nth ds i).xs=(nth ds' i).xs) (fs:List FlM) (line:Int) (acc:Cv) (u:Nat):clsStep fs ds line acc u=clsStep fs ds' line acc u:=by
 unfold clsStep
 rw[atC_congr h]
theorem clsGo_congr {ds ds':List Sl} (h:∀ i,(nth ds i).xs=(nth ds' i).xs) (fs:List FlM) (line:Int):∀ (us:List Int) (acc:Cv),clsGo fs ds line acc us=clsGo fs ds' line acc us
 | [],_=>rfl
 | u::r,acc=>by
  unfold clsGo
  rw[clsStep_congr h,clsGo_congr h fs line r]
theorem rows_nth {ds:List Sl} {xs:List Int} (hl:ds.length=xs.length) (hx:∀ i,i<xs.length→(nth ds i).xs=[nth xs i]) (i:Nat):(nth ds i).xs=(nth (rwL xs) i).xs:=by
 by_cases hi:i<xs.length
 ·rw[hx i hi,rwL_nth xs hi]
 ·have e1:nth ds i=default:=by unfold nth List.getD;rw[List.getElem?_eq_none (by omega)];rfl
  have e2:nth (rwL xs) i=default:=by unfold nth List.getD;rw[List.getElem?_eq_none (by rw[rwL_len];omega)];rfl
  rw[e1,e2]
structure BnL (ms:List LnM):Prop where
  ln:∀ m∈ms,m.L.kind=1∧m.L.n=1∧0≤m.L.cap∧m.L.cap≤4000
structure BnF (nl:Nat) (fs:List FlM):Prop where
  fl:∀ m∈fs,m.f.route.length≤4∧validB m.f.cv=true∧finB m.f.cv=true∧m.f.cls=0∧∀ l∈m.f.route,0≤l∧l<nl
def szM (fs:List FlM) (us:List Int):Sz:=us.foldl (fun (a:Sz) u=>⟨min a.least (nth fs u.toNat).f.lo,max a.most (nth fs u.toNat).f.hi⟩) ⟨(nth fs (nth us 0).toNat).f.lo,(nth fs (nth us 0).toNat).f.hi⟩
def szL (fs:List FlM) (us:List Int):Sz:=if us=[] then ⟨1,1⟩ else szM fs us
theorem szL_one (fs:List FlM) {us:List Int} (h:0<us.length):szL fs (us.take (0+1))=⟨(nth fs (nth us 0).toNat).f.lo,(nth fs (nth us 0).toNat).f.hi⟩:=by
 obtain⟨u,us,rfl⟩:∃ u v,us=u::v:=by
  cases us with
  | nil=>cases h
  | cons u v=>exact⟨u,v,rfl⟩
 unfold szL szM
 rw[if_neg (by simp)]
 show (⟨min (nth fs u.toNat).f.lo (nth fs u.toNat).f.lo,max (nth fs u.toNat).f.hi (nth fs u.toNat).f.hi⟩:Sz)=_
 rw[Int.min_self,Int.max_self]
 rfl
theorem szL_succ (fs:List FlM) {us:List Int} {k:Nat} (h:k<us.length) (h0:0<k):szL fs (us.take (k+1))=⟨min (szL fs (us.take k)).least (nth fs (nth us k).toNat).f.lo,max (szL fs (us.take k)).most (nth fs (nth us k).toNat).f.hi⟩:=by
 have e0:∀ j,0<j→nth (us.take j) 0=nth us 0:=fun j hj=>nth_takeB hj (by omega)
 have n0:∀ j,0<j→us.take j≠[]:=fun j hj he=>by
  have:=congrArg List.length he
  rw[List.length_take,List.length_nil] at this
  omega
 unfold szL
 rw[if_neg (n0 _ (by omega)),if_neg (n0 _ h0)]
 unfold szM
 rw[e0 _ (by omega),e0 _ h0,take_nth h,List.foldl_append]
 rfl
def szN (x y:Sz):Sz:=⟨if y.least<x.least then y.least else x.least,if x.most<y.most then y.most else x.most⟩
theorem szN_eq (fs:List FlM) {us:List Int} {k:Nat} (h:k<us.length) (h0:0<k):szN (szL fs (us.take k)) ⟨(nth fs (nth us k).toNat).f.lo,(nth fs (nth us k).toNat).f.hi⟩=szL fs (us.take (k+1)):=by
 rw[szL_succ fs h h0]
 unfold szN
 congr 1
 ·dsimp only;split<;>omega
 ·dsimp only;split<;>omega
def hopD (ms:List LnM) (fs:List FlM) (ds:List Sl) (l:Nat):Int :=
  if membL fs 0 (usersL fs (l:Int) fs.length)=[] then 0
  else if (clsGo fs ds (l:Int) zeroC (membL fs 0 (usersL fs (l:Int) fs.length))).2≠0 then -1
  else if (delayL (nth ms l).L 0 [(clsGo fs ds (l:Int) zeroC (membL fs 0 (usersL fs (l:Int) fs.length))).1] [szL fs (membL fs 0 (usersL fs (l:Int) fs.length))]).2≠0 then -1
  else if (delayL (nth ms l).L 0 [(clsGo fs ds (l:Int) zeroC (membL fs 0 (usersL fs (l:Int) fs.length))).1] [szL fs (membL fs 0 (usersL fs (l:Int) fs.length))]).1.1=true∨400<(delayL (nth ms l).L 0 [(clsGo fs ds (l:Int) zeroC (membL fs 0 (usersL fs (l:Int) fs.length))).1] [szL fs (membL fs 0 (usersL fs (l:Int) fs.length))]).1.2.1 then -1
  else (delayL (nth ms l).L 0 [(clsGo fs ds (l:Int) zeroC (membL fs 0 (usersL fs (l:Int) fs.length))).1] [szL fs (membL fs 0 (usersL fs (l:Int) fs.length))]).1.2.1
def measD (ms:List LnM) (fs:List FlM) (ds:List Sl) (l:Nat):(Bool × Int × Int) × Int :=
  if membL fs 0 (usersL fs (l:Int) fs.length)=[] then ((false,0,0),0) else if (clsGo fs ds (l:Int) zeroC (membL fs 0 (usersL fs (l:Int) fs.length))).2≠0 then ((false,0,0),(clsGo fs ds (l:Int) zeroC (membL fs 0 (usersL fs (l:Int) fs.length))).2) else delayL (nth ms l).L 0 [(clsGo fs ds (l:Int) zeroC (membL fs 0 (usersL fs (l:Int) fs.length))).1] [szL fs (membL fs 0 (usersL fs (l:Int) fs.length))]
theorem hopD_meas (ms:List LnM) (fs:List FlM) (ds:List Sl) (l:Nat):hopD ms fs ds l=if (measD ms fs ds l).2≠0 then -1 else if (measD ms fs ds l).1.1=true∨400<(measD ms fs ds l).1.2.1 then -1 else (measD ms fs ds l).1.2.1:=by
 unfold hopD measD
 by_cases h:membL fs 0 (usersL fs (l:Int) fs.length)=[]
 ·rw[if_pos h,if_pos h];rfl
 ·rw[if_neg h,if_neg h]
  by_cases h2:(clsGo fs ds (l:Int) zeroC (membL fs 0 (usersL fs (l:Int) fs.length))).2≠0
  ·rw[if_pos h2,if_pos h2,if_pos h2]
  ·rw[if_neg h2,if_neg h2]
theorem clsGo_valid {fs:List FlM} {ds:List Sl} {line:Int} (h:∀ u,u<fs.length→validB (nth fs u).f.cv=true∧finB (nth fs u).f.cv=true) (hd:∀ u,u<fs.length→(befS ds (nth fs u).f.cls ((nth fs u).f.route.take (hopL line (nth fs u).f.route).toNat)).toNat≤2000):∀ (us:List Int) (acc:Cv),(∀ x∈us,0≤x∧x<fs.length)→validB acc=true→(clsGo fs ds line acc us).2=0→validB (clsGo fs ds line acc us).1=true
 | [],_,_,hv,_=>hv
 | u :: r, acc, hu, hv, h0 => by
  have hu1:=hu u (by simp)
  unfold clsGo at h0 ⊢
  by_cases hz:(clsStep fs ds line acc u.toNat).2≠0
  ·rw[if_pos hz] at h0;exact absurd h0 hz
  ·rw[if_neg hz] at h0 ⊢
   exact clsGo_valid h hd r _ (fun x hx=>hu x (by simp[hx])) (clsStep_valid hv (h _ (by omega)).1 (h _ (by omega)).2 (hd _ (by omega)) (by omega)) h0
theorem hopD_congr {ds ds':List Sl} (h:∀ i,(nth ds i).xs=(nth ds' i).xs) (ms:List LnM) (fs:List FlM) (l:Nat):hopD ms fs ds l=hopD ms fs ds' l:=by
 unfold hopD
 rw[clsGo_congr h]
def stepD (ms:List LnM) (fs:List FlM) (xs:List Int):List Int:=(List.range ms.length).map fun l=>hopD ms fs (rwL xs) l
theorem stepD_len (ms:List LnM) (fs:List FlM) (xs:List Int):(stepD ms fs xs).length=ms.length:=by unfold stepD;rw[List.length_map,List.length_range]
theorem stepD_nth (ms:List LnM) (fs:List FlM) (xs:List Int) {l:Nat} (hl:l<ms.length):nth (stepD ms fs xs) l=hopD ms fs (rwL xs) l:=by
 unfold stepD
 rw[nth_eq (by rw[List.length_map,List.length_range];exact hl),List.getElem_map,List.getElem_range]
def itD (ms:List LnM) (fs:List FlM):Nat→List Int
  | 0=>List.replicate ms.length 0
  | k+1=>stepD ms fs (itD ms fs k)
theorem itD_len (ms:List LnM) (fs:List FlM) (k:Nat):(itD ms fs k).length=ms.length:=by
 cases k with
 | zero=>exact List.length_replicate
 | succ k=>exact stepD_len _ _ _
theorem at_res {fs:List FlM} {nl:Nat} (hF:BnF nl fs) {xs:List Int} (hxl:xs.length=nl) (hx:∀ x∈xs,0≤x∧x≤400) {line:Int} {u:Nat} (hu:u<fs.length) (h0:(atC fs (rwL xs) line u).2=0) :
  Nrm (atC fs (rwL xs) line u).1∧finB (atC fs (rwL xs) line u).1=true∧cvF (atC fs (rwL xs) line u).1=aheadF (nth fs u).f.cv (befS (rwL xs) 0 ((nth fs u).f.route.take (hopL line (nth fs u).f.route).toNat)).toNat∧0≤befS (rwL xs) 0 ((nth fs u).f.route.take (hopL line (nth fs u).f.route).toNat):=by
 obtain⟨f1,f2,f3,f4,f5⟩:=hF.fl _ (nth_mem hu)
 have hb:=befS_bound (ds:=rwL xs) (cls:=0) (r:=(nth fs u).f.route) (h:=(hopL line (nth fs u).f.route).toNat) (fun l hl=>by rw[rwL_len,hxl];exact f5 l hl) (fun s hs x hxs=>by
  unfold rwL at hs
  obtain⟨y,hy,rfl⟩:=List.mem_map.1 hs
  simp only[List.mem_singleton] at hxs
  subst hxs
  exact hx _ hy) (fun s hs=>by
  unfold rwL at hs
  obtain⟨y,_,rfl⟩:=List.mem_map.1 hs
  exact⟨by omega,by show (0:Int)<((1:Nat):Int);decide⟩) f1
 unfold atC at h0 ⊢
 rw[f4] at h0 ⊢
 rcases ahead_res f2 f3 (d:=(befS (rwL xs) 0 ((nth fs u).f.route.take (hopL line (nth fs u).f.route).toNat)).toNat) (by omega) with h|⟨c,h1,h2,h3,h4⟩
 ·rw[h] at h0;exact absurd h0 (by decide)
 ·rw[h1]
  exact⟨h2,h4,h3,hb.1⟩
theorem step_res {fs:List FlM} {nl:Nat} (hF:BnF nl fs) {xs:List Int} (hxl:xs.length=nl) (hx:∀ x∈xs,0≤x∧x≤400) {line:Int} {u:Nat} (hu:u<fs.length) {acc:Cv} (hv:validB acc=true) (hf:finB acc=true) (h0:(clsStep fs (rwL xs) line acc u).2=0) :
  validB (clsStep fs (rwL xs) line acc u).1=true∧finB (clsStep fs (rwL xs) line acc u).1=true∧∀ t,cvF (clsStep fs (rwL xs) line acc u).1 t=cvF acc t+aheadF (nth fs u).f.cv (befS (rwL xs) 0 ((nth fs u).f.route.take (hopL line (nth fs u).f.route).toNat)).toNat t:=by
 unfold clsStep at h0 ⊢
 by_cases hz:(atC fs (rwL xs) line u).2≠0
 ·rw[if_pos hz] at h0;exact absurd h0 hz
 ·rw[if_neg hz] at h0 ⊢
  obtain⟨a1,a2,a3,a4⟩:=at_res hF hxl hx (line:=line) hu (by omega)
  rcases sum_res hv a1.valid with h|⟨c,h1,h2,h3,h4⟩
  ·rw[h] at h0;exact absurd h0 (by decide)
  ·rw[h1]
   refine⟨h2.valid,h4 hf a2,fun t=>?_⟩
   obtain⟨_,n1,_,n2,_⟩:=norm_valid hv
   obtain⟨_,n3,_,n4,_⟩:=norm_valid a1.valid
   rw[h3]
   unfold plusF
   rw[if_neg (fun h=>h.elim (isInf_fin (by rw[n2];exact hf) t) (isInf_fin (by rw[n4];exact a2) t)),n1,n3,a3]
theorem ahead_nonneg {a:Cv} (ha:validB a=true) (fa:finB a=true) (d t:Nat):0≤aheadF a d t:=by
 unfold aheadF
 split
 ·omega
 ·rcases valid_cases ha with ⟨S1,P1,_,_,_,fc1,_⟩|⟨_,_,_,_,_,_,_,f⟩
  ·exact fc1.nonneg _
  ·rw[fa] at f;cases f
theorem ahead_mono {a:Cv} (ha:validB a=true) (fa:finB a=true) {d d':Nat} (h:d≤d') (t:Nat):aheadF a d t≤aheadF a d' t:=by
 unfold aheadF
 split
 ·omega
 ·rcases valid_cases ha with ⟨S1,P1,_,_,_,fc1,_⟩|⟨_,_,_,_,_,_,_,f⟩
  ·exact fc1.mono (by omega)
  ·rw[fa] at f;cases f
theorem go_grows {fs:List FlM} {nl:Nat} (hF:BnF nl fs) {xs:List Int} (hxl:xs.length=nl) (hx:∀ x∈xs,0≤x∧x≤400) {line:Int}:∀ (us:List Int) (acc:Cv),(∀ x∈us,0≤x∧x<fs.length)→validB acc=true→finB acc=true→(clsGo fs (rwL xs) line acc us).2=0 →
  validB (clsGo fs (rwL xs) line acc us).1=true∧finB (clsGo fs (rwL xs) line acc us).1=true∧∀ t,cvF acc t≤cvF (clsGo fs (rwL xs) line acc us).1 t
 | [],acc,_,hv,hf,_=>⟨hv,hf,fun _=>Int.le_refl _⟩
 | u :: r, acc, hu, hv, hf, h0 => by
  have hu1:=hu u (by simp)
  unfold clsGo at h0 ⊢
  by_cases hz:(clsStep fs (rwL xs) line acc u.toNat).2≠0
  ·rw[if_pos hz] at h0;exact absurd h0 hz
  ·rw[if_neg hz] at h0 ⊢
   obtain⟨s1,s2,s3⟩:=step_res hF hxl hx (line:=line) (u:=u.toNat) (by omega) hv hf (by omega)
   obtain⟨g1,g2,g3⟩:=go_grows hF hxl hx r _ (fun x hx=>hu x (by simp[hx])) s1 s2 h0
   refine⟨g1,g2,fun t=>?_⟩
   have:=g3 t
   rw[s3] at this
   have hfl:=hF.fl _ (nth_mem (xs:=fs) (k:=u.toNat) (by omega))
   have:=ahead_nonneg hfl.2.1 hfl.2.2.1 (befS (rwL xs) 0 ((nth fs u.toNat).f.route.take (hopL line (nth fs u.toNat).f.route).toNat)).toNat t
   omega
theorem befS_mono {xs ys:List Int} (hl:xs.length=ys.length) (h:∀ i,i<xs.length→nth xs i≤nth ys i):∀ (r:List Int),(∀ l∈r,0≤l∧l<xs.length)→befS (rwL xs) 0 r≤befS (rwL ys) 0 r
 | [],_=>Int.le_refl _
 | l :: r, hr => by
  have hl1:=hr l (by simp)
  have ih:=befS_mono hl h r (fun x hx=>hr x (by simp[hx]))
  have e:∀ zs:List Int,befS (rwL zs) 0 (l::r)=nth (nth (rwL zs) l.toNat).xs (0:Int).toNat+befS (rwL zs) 0 r:=fun zs=>by
   have:=befS_cons (rwL zs) 0 r (nth (nth (rwL zs) l.toNat).xs (0:Int).toNat)
   rw[← this]
   unfold befS
   rw[List.map_cons,List.foldl_cons,Int.zero_add]
  rw[e,e,rwL_nth xs (by omega),rwL_nth ys (by omega)]
  have:=h l.toNat (by omega)
  show nth xs l.toNat+_≤nth ys l.toNat+_
  omega
theorem go_mono {fs ext:List FlM} {nl:Nat} (hF:BnF nl (fs++ext)) {xs ys:List Int} (hxl:xs.length=nl) (hyl:ys.length=nl) (hx:∀ x∈xs,0≤x∧x≤400) (hy:∀ x∈ys,0≤x∧x≤400) (hxy:∀ i,i<xs.length→nth xs i≤nth ys i) {line:Int} {vs:List Int} (hvs:∀ x∈vs,0≤x∧x<(fs++ext).length) :
  ∀ (us:List Int) (acc acc':Cv),(∀ x∈us,0≤x∧x<fs.length)→validB acc=true→finB acc=true→validB acc'=true→finB acc'=true→(∀ t,cvF acc t≤cvF acc' t)→(clsGo fs (rwL xs) line acc us).2=0→(clsGo (fs++ext) (rwL ys) line acc' (us++vs)).2=0 →
  ∀ t,cvF (clsGo fs (rwL xs) line acc us).1 t≤cvF (clsGo (fs++ext) (rwL ys) line acc' (us++vs)).1 t
 | [],acc,acc',_,_,_,hv',hf',hle,_,h0'=>fun t=>by
  have:=(go_grows hF hyl hy (line:=line) vs acc' hvs hv' hf' h0').2.2 t
  have:=hle t
  show cvF acc t≤_
  rw[List.nil_append]
  omega
 | u :: r, acc, acc', hu, hv, hf, hv', hf', hle, h0, h0' => by
  have hu1:=hu u (by simp)
  have hFf:BnF nl fs:=⟨fun m hm=>hF.fl m (by simp[hm])⟩
  have en:nth (fs++ext) u.toNat=nth fs u.toNat:=by
   rw[nth_eq (by rw[List.length_append];omega),nth_eq (show u.toNat<fs.length by omega),List.getElem_append_left]
  rw[List.cons_append] at h0' ⊢
  unfold clsGo at h0 h0' ⊢
  by_cases hz:(clsStep fs (rwL xs) line acc u.toNat).2≠0
  ·rw[if_pos hz] at h0;exact absurd h0 hz
  ·by_cases hz':(clsStep (fs++ext) (rwL ys) line acc' u.toNat).2≠0
   ·rw[if_pos hz'] at h0';exact absurd h0' hz'
   ·rw[if_neg hz] at h0 ⊢
    rw[if_neg hz'] at h0' ⊢
    obtain⟨s1,s2,s3⟩:=step_res hFf hxl hx (line:=line) (u:=u.toNat) (by omega) hv hf (by omega)
    obtain⟨q1,q2,q3⟩:=step_res hF hyl hy (line:=line) (u:=u.toNat) (by rw[List.length_append];omega) hv' hf' (by omega)
    refine go_mono hF hxl hyl hx hy hxy hvs r _ _ (fun x hx=>hu x (by simp[hx])) s1 s2 q1 q2 (fun t=>?_) h0 h0'
    rw[s3,q3,en]
    have hfl:=hFf.fl _ (nth_mem (xs:=fs) (k:=u.toNat) (by omega))
    have hbm:=befS_mono (by omega) hxy ((nth fs u.toNat).f.route.take (hopL line (nth fs u.toNat).f.route).toNat) (fun l hl=>by
     have:=hfl.2.2.2.2 l (List.mem_of_mem_take hl)
     omega)
    have:=ahead_mono hfl.2.1 hfl.2.2.1 (d:=(befS (rwL xs) 0 ((nth fs u.toNat).f.route.take (hopL line (nth fs u.toNat).f.route).toNat)).toNat) (d':=(befS (rwL ys) 0 ((nth fs u.toNat).f.route.take (hopL line (nth fs u.toNat).f.route).toNat)).toNat) (by omega) t
    have:=hle t
    omega
theorem users_ext (fs ext:List FlM) (line:Int):∃ vs,usersL (fs++ext) line (fs++ext).length=usersL fs line fs.length++vs:=by
 have key : ∀ k, ∃ vs, usersL (fs ++ ext) line (fs.length + k) = usersL fs line fs.length ++ vs := fun k => by
  induction k with
  | zero =>
   refine⟨[],?_⟩
   rw[List.append_nil,Nat.add_zero]
   have:∀ n,n≤fs.length→usersL (fs++ext) line n=usersL fs line n:=fun n hn=>by
    induction n with
    | zero=>rfl
    | succ n ih =>
     have en:nth (fs++ext) n=nth fs n:=by
      rw[nth_eq (by rw[List.length_append];omega),nth_eq (show n<fs.length by omega),List.getElem_append_left]
     rw[usersL_snoc,usersL_snoc,ih (by omega),en]
   exact this _ (Nat.le_refl _)
  | succ k ih =>
   obtain⟨vs,hv⟩:=ih
   rw[← Nat.add_assoc,usersL_snoc,hv,List.append_assoc]
   exact⟨_,rfl⟩
 rw[List.length_append]
 exact key ext.length
theorem memb_ext (fs ext:List FlM) (line:Int):∃ vs,membL (fs++ext) 0 (usersL (fs++ext) line (fs++ext).length)=membL fs 0 (usersL fs line fs.length)++vs∧∀ x∈vs,0≤x∧x<(fs++ext).length:=by
 obtain⟨vs,hv⟩:=users_ext fs ext line
 have hm:∀ x∈membL (fs++ext) 0 (usersL (fs++ext) line (fs++ext).length),0≤x∧x<(fs++ext).length:=fun x hx=>by
  obtain⟨u,rfl,hu,_⟩:=membL_mem hx
  omega
 have e:membL (fs++ext) 0 (usersL (fs++ext) line (fs++ext).length)=membL fs 0 (usersL fs line fs.length)++membL (fs++ext) 0 vs:=by
  rw[hv]
  unfold membL
  rw[List.filter_append]
  congr 1
  refine List.filter_congr fun x hx=>?_
  have hx2:=usersL_mem hx
  have en:nth (fs++ext) x.toNat=nth fs x.toNat:=by
   rw[nth_eq (by rw[List.length_append];omega),nth_eq (show x.toNat<fs.length by omega),List.getElem_append_left]
  rw[en]
 refine⟨membL (fs++ext) 0 vs,e,fun x hx=>hm x ?_⟩
 rw[e]
 exact List.mem_append_right _ hx
theorem delay1 {L:Ln} (hk:L.kind=1) {c:Cv} {z:Sz} (h:(delayL L 0 [c] [z]).2=0):(totalC [c]).2=0∧delayL L 0 [c] [z]=delayC (totalC [c]).1 (lineC L.cap):=by
 unfold delayL at h ⊢
 rw[if_neg (fun hh=>hh hk)] at h ⊢
 by_cases q:argE L 0 [c] [z]≠0
 ·rw[if_pos q] at h;exact absurd h q
 ·rw[if_neg q] at h ⊢
  unfold allC at h ⊢
  by_cases q:(totalC [c]).2≠0
  ·rw[if_pos q] at h;exact absurd h q
  ·rw[if_neg q];exact⟨by omega,rfl⟩
theorem total1 {c:Cv} (hv:validB c=true) (hf:finB c=true) (h:(totalC [c]).2=0):validB (totalC [c]).1=true∧finB (totalC [c]).1=true∧∀ t,cvF (totalC [c]).1 t=cvF c t:=by
 have ho:∀ f∈[c],validB f=true∧finB f=true:=fun f hf'=>by
  rw[List.mem_singleton] at hf';subst hf';exact⟨hv,hf⟩
 obtain⟨f1,f2⟩:=total_cv [c] zeroC (totalC [c]).1 zero_nrm.valid (by kernel_rfl) ho (Prod.ext rfl h)
 refine⟨total_valid (fun x hx=>(ho x hx).1) h,f1,fun t=>?_⟩
 rw[f2,zero_cv]
 show 0+sumUp (fun i=>cvF (nth [c] i) t) 1=_
 simp only[sumUp,Int.zero_add]
 rfl
theorem hopD_mono {fs ext : List FlM} {ms ms' : List LnM} (hF : BnF ms.length (fs ++ ext)) (hM : BnL ms) (hM' : BnL ms') {l : Nat} (hl : l < ms.length) (hll : ms'.length = ms.length) (hcap : (nth ms l).L.cap ≤ (nth ms' l).L.cap)
    {xs ys:List Int} (hxl:xs.length=ms.length) (hyl:ys.length=ms.length) (hx:∀ x∈xs,0≤x∧x≤400) (hy:∀ x∈ys,0≤x∧x≤400) (hxy:∀ i,i<xs.length→nth xs i≤nth ys i)
    (h0:0≤hopD ms' fs (rwL xs) l) (h0':0≤hopD ms (fs++ext) (rwL ys) l):hopD ms' fs (rwL xs) l≤hopD ms (fs++ext) (rwL ys) l:=by
  have hFf:BnF ms.length fs:=⟨fun m hm=>hF.fl m (by simp[hm])⟩
  obtain⟨vs,hv1,hv2⟩:=memb_ext fs ext (l:Int)
  by_cases he:membL fs 0 (usersL fs (l:Int) fs.length)=[]
  · have:hopD ms' fs (rwL xs) l=0:=by unfold hopD;rw[if_pos he]
    omega
  · have he':membL (fs++ext) 0 (usersL (fs++ext) (l:Int) (fs++ext).length)≠[]:=by rw[hv1];simp[he]
    unfold hopD at h0 h0' ⊢
    rw[if_neg he] at h0 ⊢
    rw[if_neg he'] at h0' ⊢
    by_cases a1:(clsGo fs (rwL xs) (l:Int) zeroC (membL fs 0 (usersL fs (l:Int) fs.length))).2≠0
    · rw[if_pos a1] at h0;omega
    by_cases b1:(clsGo (fs++ext) (rwL ys) (l:Int) zeroC (membL (fs++ext) 0 (usersL (fs++ext) (l:Int) (fs++ext).length))).2≠0
    · rw[if_pos b1] at h0';omega
    rw[if_neg a1] at h0 ⊢
    rw[if_neg b1] at h0' ⊢
    by_cases a2:(delayL (nth ms' l).L 0 [(clsGo fs (rwL xs) (l:Int) zeroC (membL fs 0 (usersL fs (l:Int) fs.length))).1] [szL fs (membL fs 0 (usersL fs (l:Int) fs.length))]).2≠0
    · rw[if_pos a2] at h0;omega
    by_cases b2:(delayL (nth ms l).L 0 [(clsGo (fs++ext) (rwL ys) (l:Int) zeroC (membL (fs++ext) 0 (usersL (fs++ext) (l:Int) (fs++ext).length))).1] [szL (fs++ext) (membL (fs++ext) 0 (usersL (fs++ext) (l:Int) (fs++ext).length))]).2≠0
    · rw[if_pos b2] at h0';omega
    rw[if_neg a2] at h0 ⊢
    rw[if_neg b2] at h0' ⊢
    have a1:(clsGo fs (rwL xs) (l:Int) zeroC (membL fs 0 (usersL fs (l:Int) fs.length))).2=0:=by omega
    have b1:(clsGo (fs++ext) (rwL ys) (l:Int) zeroC (membL (fs++ext) 0 (usersL (fs++ext) (l:Int) (fs++ext).length))).2=0:=by omega
    have hmem:∀ x∈membL fs 0 (usersL fs (l:Int) fs.length),0≤x∧x<fs.length:=fun x hx=>by
      obtain⟨u,rfl,hu,_⟩:=membL_mem hx
      omega
    have hz:finB zeroC=true:=by kernel_rfl
    rw[hv1] at b1 b2 h0' ⊢
    have hle:=go_mono hF hxl hyl hx hy hxy hv2 _ zeroC zeroC hmem zero_nrm.valid hz zero_nrm.valid hz (fun _=>Int.le_refl _) a1 b1
    obtain⟨c1,c2,_⟩:=go_grows hFf hxl hx (line:=(l:Int)) _ zeroC hmem zero_nrm.valid hz a1
    obtain⟨e1,e2,_⟩:=go_grows hF hyl hy (line:=(l:Int)) _ zeroC (fun x hx=>by
      rcases List.mem_append.1 hx with h|h
      · have:=hmem x h;rw[List.length_append];omega
      · exact hv2 x h) zero_nrm.valid hz b1
    generalize (clsGo fs (rwL xs) (l:Int) zeroC (membL fs 0 (usersL fs (l:Int) fs.length))).1=ca at *
    generalize (clsGo (fs++ext) (rwL ys) (l:Int) zeroC (membL fs 0 (usersL fs (l:Int) fs.length)++vs)).1=cb at *
    generalize szL fs (membL fs 0 (usersL fs (l:Int) fs.length))=za at *
    generalize szL (fs++ext) (membL fs 0 (usersL fs (l:Int) fs.length)++vs)=zb at *
    have k1:=hM'.ln _ (nth_mem (xs:=ms') (k:=l) (by omega))
    have k2:=hM.ln _ (nth_mem (xs:=ms) (k:=l) hl)
    obtain⟨t1,d1⟩:=delay1 k1.1 (c:=ca) (z:=za) (by omega)
    obtain⟨t2,d2⟩:=delay1 k2.1 (c:=cb) (z:=zb) (by omega)
    obtain⟨v1,v2,v3⟩:=total1 c1 c2 t1
    obtain⟨w1,w2,w3⟩:=total1 e1 e2 t2
    obtain⟨l1,l2,l3,_⟩:=line_facts (cap:=(nth ms' l).L.cap) ⟨by omega,by omega⟩
    obtain⟨m1,m2,m3,_⟩:=line_facts (cap:=(nth ms l).L.cap) ⟨by omega,by omega⟩
    rw[d1] at a2 h0 ⊢
    rw[d2] at b2 h0' ⊢
    have hm:=delayC_mono v1 l1.valid v2 l3 w1 m1.valid w2 m3 (fun t=>by rw[v3,w3];exact hle t) (fun t=>by
      rw[l2,m2]
      exact Int.mul_le_mul_of_nonneg_right hcap (by omega)) (by omega) (by omega)
    by_cases b3:(delayC (totalC [cb]).1 (lineC (nth ms l).L.cap)).1.1=true∨400<(delayC (totalC [cb]).1 (lineC (nth ms l).L.cap)).1.2.1
    · rw[if_pos b3] at h0';omega
    · rw[if_neg b3] at h0' ⊢
      rcases hm with h|⟨h,h2,_⟩
      · exact absurd (.inl h) b3
      · rw [if_neg (by rw [h]; intro hh; rcases hh with hh | hh; · cases hh
                       · exact b3 (.inr (by omega)))]
        exact h2
theorem hopD_le (ms:List LnM) (fs:List FlM) (ds:List Sl) (l:Nat):hopD ms fs ds l≤400:=by
 unfold hopD
 repeat' split
 all_goals omega
theorem itD_le (ms:List LnM) (fs:List FlM) (k:Nat):∀ x∈itD ms fs k,x≤400:=fun x hx=>by
 cases k with
 | zero =>
  have:x=0:=List.eq_of_mem_replicate hx
  omega
 | succ k =>
  have hx:x∈stepD ms fs (itD ms fs k):=hx
  unfold stepD at hx
  obtain⟨y,_,rfl⟩:=List.mem_map.1 hx
  exact hopD_le _ _ _ _
structure BnG (ms:List LnM) (fs:List FlM):Prop where
  ln:∀ m∈ms,m.L.kind=1∧m.L.n=1∧m.L.tb.length≤m.c2
  cap:∀ m∈ms,0≤m.L.cap∧m.L.cap≤4000
  fl:∀ m∈fs,m.f.route.length≤4∧m.f.route.length≤m.c1∧validB m.f.cv=true∧finB m.f.cv=true∧m.f.cls=0∧∀ l∈m.f.route,0≤l∧l<ms.length
  f8:fs.length≤100
  m8:ms.length≤100
theorem BnG.bl {ms:List LnM} {fs:List FlM} (h:BnG ms fs):BnL ms:=⟨fun m hm=>⟨(h.ln m hm).1,(h.ln m hm).2.1,(h.cap m hm).1,(h.cap m hm).2⟩⟩
theorem BnG.bf {ms:List LnM} {fs:List FlM} (h:BnG ms fs):BnF ms.length fs:=⟨fun m hm=>⟨(h.fl m hm).1,(h.fl m hm).2.2.1,(h.fl m hm).2.2.2.1,(h.fl m hm).2.2.2.2.1,(h.fl m hm).2.2.2.2.2⟩⟩
def IsD (ms:List LnM) (fs:List FlM) (k:Nat) (rows:List Sl):Prop:=rows.length=ms.length∧∀ i,i<ms.length→(nth rows i).xs=[nth (itD ms fs k) i]
theorem IsD.mem {ms:List LnM} {fs:List FlM} {k:Nat} {rows:List Sl} (h:IsD ms fs k rows) {r:Sl} (hr:r∈rows):∃ x∈itD ms fs k,r.xs=[x]:=by
 obtain⟨i,hi,rfl⟩:=List.getElem_of_mem hr
 have h1:=h.2 i (by have:=h.1;omega)
 rw[← nth_eq hi,h1]
 exact⟨_,nth_mem (by rw[itD_len];have:=h.1;omega),rfl⟩
theorem IsD.step {ms:List LnM} {fs:List FlM} {k:Nat} {rows rows':List Sl} (h:IsD ms fs k rows) (hl:rows'.length=ms.length) (hx:∀ i,i<ms.length→(nth rows' i).xs=[hopD ms fs rows i]):IsD ms fs (k+1) rows':=by
 refine⟨hl,fun i hi=>?_⟩
 rw[hx i hi]
 have e1:nth (itD ms fs (k+1)) i=hopD ms fs (rwL (itD ms fs k)) i:=stepD_nth _ _ _ hi
 rw[e1,hopD_congr (rows_nth (by rw[itD_len];exact h.1) (fun j hj=>h.2 j (by rw[itD_len] at hj;exact hj)))]
theorem IsD.hy {ms:List LnM} {fs:List FlM} (hG:BnG ms fs) {k:Nat} {rows:List Sl} (h:IsD ms fs k rows) (h0:∀ x∈itD ms fs k,0≤x) :
  ShD rows ms∧(∀ r∈rows,∀ x∈r.xs,0≤x∧x≤400)∧(∀ m∈fs,m.f.route.length≤4∧m.f.route.length≤m.c1∧validB m.f.cv=true)∧(∀ m∈fs,∀ l∈m.f.route,0≤l∧l<rows.length)∧(∀ m∈fs,∀ r∈rows,0≤m.f.cls∧m.f.cls<r.xs.length)∧(∀ m∈fs,finB m.f.cv=true):=by
 refine⟨⟨h.1,fun i hi=>?_⟩,fun r hr x hx=>?_,fun m hm=>?_,fun m hm l hl=>?_,fun m hm r hr=>?_,fun m hm=>(hG.fl m hm).2.2.2.1⟩
 ·rw[h.2 i hi,(hG.ln _ (nth_mem hi)).2.1];rfl
 ·obtain⟨y,hy,e⟩:=h.mem hr
  rw[e,List.mem_singleton] at hx
  subst hx
  exact⟨h0 _ hy,itD_le _ _ _ _ hy⟩
 ·exact⟨(hG.fl m hm).1,(hG.fl m hm).2.1,(hG.fl m hm).2.2.1⟩
 ·rw[h.1];exact(hG.fl m hm).2.2.2.2.2 l hl
 ·obtain⟨y,hy,e⟩:=h.mem hr
  rw[e,(hG.fl m hm).2.2.2.2.1]
  exact⟨Int.le_refl _,by show (0:Int)<((1:Nat):Int);decide⟩
theorem used_all {ms:List LnM} {fs:List FlM} {k:Nat} {xs:List Nat} (hF:∀ l,l<ms.length→membL fs 0 (usersL fs (l:Int) fs.length)≠[]→l∈xs) (hp:∀ y∈xs,0≤nth (itD ms fs (k+1)) y):∀ v∈itD ms fs (k+1),0≤v:=fun v hv=>by
 obtain⟨i,hi,rfl⟩:=List.getElem_of_mem hv
 rw[itD_len] at hi
 rw[← nth_eq (by rw[itD_len];exact hi)]
 by_cases hm:membL fs 0 (usersL fs (i:Int) fs.length)=[]
 ·have e1:nth (itD ms fs (k+1)) i=hopD ms fs (rwL (itD ms fs k)) i:=stepD_nth _ _ _ hi
  rw[e1]
  unfold hopD
  rw[if_pos hm]
  exact Int.le_refl _
 ·exact hp _ (hF i hi hm)
def LeastOk (ms:List LnM) (fs:List FlM) (R:Ro) (sl:Value):Prop :=
  ∃ (x:Sl × List Sl) (j:Nat),sl=.slice x.1.a x.2.length x.1.cap∧K.RS R 1 encS x.1.a x.2∧(∀ r∈x.2,K.RS R 1 encI r.a r.xs)∧IsD ms fs (j+1) x.2∧itD ms fs (j+1)=itD ms fs j∧∀ i,i≤j+1→∀ v∈itD ms fs i,0≤v
theorem LeastOk.mono {ms:List LnM} {fs:List FlM} {R R':Ro} {sl:Value} (h:LeastOk ms fs R sl) (hR:RLe R R'):LeastOk ms fs R' sl:=by
 obtain⟨x,j,h1,h2,h3,h4⟩:=h
 exact⟨x,j,h1,h2.mono hR,fun r hr=>(h3 r hr).mono hR,h4⟩
theorem bes_less {fs ext:List FlM} {ms ms':List LnM} (hF:BnF ms.length (fs++ext)) (hM:BnL ms) (hM':BnL ms') (hll:ms'.length=ms.length) (hcap:∀ l,l<ms.length→(nth ms l).L.cap≤(nth ms' l).L.cap)
  {a:List Int} (hal:a.length=ms.length) (ha0:∀ x∈a,0≤x∧x≤400) (hfix:stepD ms (fs++ext) a=a):∀ j,(∀ i,i≤j→∀ x∈itD ms' fs i,0≤x)→∀ l,l<ms.length→nth (itD ms' fs j) l≤nth a l:=fun j=>by
 induction j with
 | zero =>
  intro _ l hl
  have h1:nth (itD ms' fs 0) l=0:=nth_replicate (by omega)
  have:=(ha0 _ (nth_mem (xs:=a) (k:=l) (by omega))).1
  omega
 | succ j ih =>
  intro hj l hl
  have ih:=ih (fun i hi=>hj i (by omega))
  have hlj:=itD_len ms' fs j
  have hxb:∀ x∈itD ms' fs j,0≤x∧x≤400:=fun x hx=>by
   refine⟨hj j (by omega) x hx,?_⟩
   cases j with
   | zero =>
    have:x=0:=List.eq_of_mem_replicate hx
    omega
   | succ j =>
    have hx:x∈stepD ms' fs (itD ms' fs j):=hx
    unfold stepD at hx
    obtain⟨y,_,rfl⟩:=List.mem_map.1 hx
    exact hopD_le _ _ _ _
  have e1:nth (itD ms' fs (j+1)) l=hopD ms' fs (rwL (itD ms' fs j)) l:=stepD_nth _ _ _ (by omega)
  have e2:nth a l=hopD ms (fs++ext) (rwL a) l:=by
   have:=stepD_nth ms (fs++ext) a hl
   rw[hfix] at this
   exact this
  have p1:=hj (j+1) (Nat.le_refl _) _ (nth_mem (xs:=itD ms' fs (j+1)) (k:=l) (by rw[itD_len];omega))
  have p2:=(ha0 _ (nth_mem (xs:=a) (k:=l) (by omega))).1
  rw[e1] at p1 ⊢
  rw[e2] at p2 ⊢
  exact hopD_mono hF hM hM' hl hll (hcap l hl) (by omega) hal hxb ha0 (fun i hi=>ih i (by omega)) p1 p2
end Go.Proofs.YtehaepbflkncdaaGreat.M
namespace Go.Proofs.YtehaepbflkncdaaGreat.K
open Go Go.RowKit
section
variable {P:Program} {T:Tab} {ops rest:List Oper} {Q:Exit→Act→World→Prop} {n:Nat} {env:Env} {w0:World} {R:Ro} {E:List Ent} {o:Oper} {pc p q:Bool}
theorem under_map (hT:TabOk P T) {t k e:TypeId} {d:TD} (hd:T.at t=some d) (hk:d.k=.map k e):P.underlying t=some (.map k e):=by
 have:=hT.kind hd
 rw[hk] at this
 unfold kindOf at this
 split at this<;>simp_all
theorem under_int (hT:TabOk P T) {t:TypeId} {k:IntKind} {d:TD} (hd:T.at t=some d) (hk:d.k=.int k):P.underlying t=some (.int k):=by
 have:=hT.kind hd
 rw[hk] at this
 unfold kindOf at this
 split at this<;>simp_all
theorem Ef.makeMap {K:Value→Ro→List Ent→Prop} {t:TypeId} (ho:o.op=.makeMap t none) (hK:∀ b,K (.map (some b)) R (.obj b (.map #[] 0)::E)):Ef P n env w0 R E o K:=by
 intro a w hk hm
 refine⟨_,w.alloc (.map #[] 0),R,_,.inl ?_,hm.newObj _,hK _⟩
 unfold execOp
 simp[ho,run_makeMap_plain]
theorem Ef.insert {K:Value→Ro→List Ent→Prop} {t kt et:TypeId} {x y z:Operand} {b clock:Nat} {es:Array MapEntry} {kk:IntKind} {k:Int} {v:Value} {d d2:TD} (hT:TabOk P T) (ho:o.op=.insert t x y z) (hd:T.at t=some d) (hkd:d.k=.map kt et) (hd2:T.at kt=some d2) (hk2:d2.k=.int kk)
  (hx:ev env x=some (true,.map (some b))) (hy:ev env y=some (true,.int kk k)) (hz:ev env z=some (true,v)) (hf:Instr.findNow (.int kk) (.int kk k) es.toList 0=some none)
  (hK:K undef R (.obj b (.map (es.push { key:=.int kk k,val:=v,born:=clock }) (clock+1))::E)):Ef P n env w0 R (.obj b (.map es clock)::E) o K:=by
 intro a w hk hm
 have hb:=hm.getObj
 have hm1:=under_map hT hd hkd
 have hu2:=under_int hT hd2 hk2
 have hc:(Instr.checkKey false 10000 kt (.int kk k)).run P w=.ok () w:=MapKept.run_checkKey (k:=.int kk k) hu2 (by simp[MapKept.IsKey]) false 9999
 refine⟨undef,w.putObj b (.map (es.push { key:=.int kk k,val:=v,born:=clock }) (clock+1)),R,_,.inr ⟨?_,rfl⟩,hm.putObj _,hK⟩
 unfold execOp
 simp[ho,hk.ev hx rfl,hk.ev hy rfl,hk.ev hz rfl,Instr.mapUpdate,run_underlying hm1,MapKept.run_getObj_map hb,hc,MapKept.run_findKey hu2 hf,MapKept.run_setObj_map _ hb,Result.andThen,World.putObj]
def foundV (z:Value):Option (Nat × Value)→Value
  | some (_,u)=>.tuple #[u,.bool true]
  | none=>.tuple #[z,.bool false]
theorem Yl.lookup {t kt et:TypeId} {x y:Operand} {b clock:Nat} {es:Array MapEntry} {kk:IntKind} {k:Int} {v z:Value} {d d2:TD} {r:Option (Nat × Value)} (hT:TabOk P T) (ho:o.op=.lookup t x y true) (hd:T.at t=some d) (hkd:d.k=.map kt et) (hd2:T.at kt=some d2) (hk2:d2.k=.int kk) (hz:(P.info? et).bind (·.zero)=some z)
  (hx:ev env x=some (p,.map (some b))) (hy:ev env y=some (q,.int kk k)) (hpq:pc=true→(p && q)=true) (hf:Instr.findNow (.int kk) (.int kk k) es.toList 0=some r)
  (hv:foundV z r=v):Yl P n env w0 R (.obj b (.map es clock)::E) o pc v:=by
 intro a w hk hm hpc
 obtain⟨h1,h2⟩:=and_both (hpq hpc)
 have hb:=hm.getObj
 have hm1:=under_map hT hd hkd
 have hu2:=under_int hT hd2 hk2
 have hc:(Instr.checkKey es.isEmpty 10000 kt (.int kk k)).run P w=.ok () w:=MapKept.run_checkKey (k:=.int kk k) hu2 (by simp[MapKept.IsKey]) es.isEmpty 9999
 have hz':(zeroValue et).run P w=.ok z w:=by
  cases hi:P.info? et with
  | none=>rw[hi] at hz;cases hz
  | some inf =>
   rw[hi] at hz
   have:inf.zero=some z:=hz
   simp[zeroValue,typeInfo,hi,this]
 subst hv
 unfold execOp
 cases r with
 | none=>simp[foundV,ho,hk.ev hx h1,hk.ev hy h2,Instr.lookup,run_underlying hm1,MapKept.run_getObj_map hb,hc,MapKept.run_findKey hu2 hf,hz',Result.andThen]
 | some r=>simp[foundV,ho,hk.ev hx h1,hk.ev hy h2,Instr.lookup,run_underlying hm1,MapKept.run_getObj_map hb,hc,MapKept.run_findKey hu2 hf,Result.andThen]
theorem Yl.toIface {t:TypeId} {fs:List (Nat × Nat)} {x:Operand} {v:Value} {d:TD} (hT:TabOk P T) (ho:o.op=.makeInterface t x) (hd:T.at t=some d) (hk:d.k=.strct fs) (hx:ev env x=some (p,v)) (hpq:pc=true→p=true):Yl P n env w0 R E o pc (.iface t v):=by
 intro a w hk2 hm hpc
 obtain⟨ff,hu,_⟩:=hT.strct hd hk
 unfold execOp
 simp[ho,hk2.ev hx (hpq hpc),Instr.makeInterface,run_underlying hu]
def Meth (P:Program) (t:TypeId) (rv:Value) (name:String) (f:FuncId) (us:List Value):Prop :=
  ∀ w,(callMethod (.iface t rv) name us.toArray).run P w=.ok (.enter f (rv::us).toArray) w
theorem run_callI {a:Act} {w:World} (hk:Kn n env a) {x:Operand} {args:List Operand} {ats:Array TypeId} {name:String} {t:TypeId} {rv:Value} {f:FuncId} {us:List Value} (ho:o.op=.call { callee:=.invoke x name,args:=args.toArray,argTypes:=ats })
  (hx:ev env x=some (true,.iface t rv)) (ha:evs env args=some (true,us)) (hm:Meth P t rv name f us):(execOp a.eval o).run P w=.ok (.enter f (rv::us).toArray) w:=by
 have e1:=hk.ev hx rfl
 have e2:=evs_ok hk ha rfl
 have e3:args.toArray.map a.eval=us.toArray:=by rw[← e2];simp
 have e4:(#[Value.iface t rv]++us.toArray).extract 1 (#[Value.iface t rv]++us.toArray).size=us.toArray:=by simp
 have e5:(#[Value.iface t rv]++us.toArray)[0]?=some (.iface t rv):=by simp
 unfold execOp
 rw[ho]
 simp only[resolve,e1,e3,invoke,Sem.run_bind,Sem.run_pure,Result.andThen_ok]
 rw[e5]
 simp only[e4]
 exact hm w
theorem WL.callI {d:Nat} {x:Operand} {args:List Operand} {ats:Array TypeId} {name:String} {t:TypeId} {rv:Value} {f:FuncId} {us:List Value} {Post:Value→Ro→List Ent→Prop} (ho:o.op=.call { callee:=.invoke x name,args:=args.toArray,argTypes:=ats }) (hg:o.guard=none) (hd:o.dst=some d) (hdn:d<n)
  (hx:ev env x=some (true,.iface t rv)) (ha:evs env args=some (true,us)) (hm:Meth P t rv name f us) (hv:Fn P f (rv::us) w0 R E Post)
  (h:∀ v R' E',RLe R R'→Post v R' E'→WG false P ops Q rest n ((d,true,v)::env) w0 R' E'):WG false P ops Q (o::rest) n env w0 R E:=by
 intro a w hk hmm
 refine wpList_plain hg fun K hK=>?_
 unfold Oper.wp
 rw[run_callI hk ho hx ha hm]
 refine(hv w hmm).mono ?_
 rintro e w' ⟨v,R',E',rfl,hR,hm',hp⟩
 simp only[hd]
 exact hK _ _ (h v R' E' hR hp _ _ (hk.putT hdn v) hm')
end
section
variable {P:Program} {T:Tab} {n:Nat} {env:Env} {w0:World} {R:Ro} {E:List Ent} {Q:Exit→Act→World→Prop} {K:Act→World→Prop} {ch:List PanicEntry}
variable {o:Oper} {ops rest:List Oper}
end
end Go.Proofs.YtehaepbflkncdaaGreat.K
namespace Go.Proofs.YtehaepbflkncdaaGreat.M
open Go Go.Proofs.YtehaepbflkncdaaGreat.K
abbrev Nmd:=List UInt8 × Cv
def hasN (l:List Nmd) (n:List UInt8):Bool:=l.any (fun x=>decide (x.1=n))
def findNm:List Nmd→List UInt8→Cv × Int
  | [],_=>(zcv,5)
  | x::l,n=>if x.1=n then (x.2,0) else findNm l n
theorem find_has:∀ (l:List Nmd) (n:List UInt8),(findNm l n).2=0↔hasN l n=true
 | [],n=>by simp[findNm,hasN]
 | x::l,n=>by
  unfold findNm
  by_cases h:x.1=n
  ·rw[if_pos h];simp[hasN,h]
  ·rw[if_neg h,find_has l n];simp[hasN,h]
theorem find_err (l:List Nmd) (n:List UInt8):(findNm l n).2=0∨findNm l n=(zcv,5):=by
 induction l with
 | nil=>exact .inr rfl
 | cons x l ih =>
  unfold findNm
  split
  ·exact .inl rfl
  ·exact ih
section
variable {s0:List UInt8} {n:Int} {acc:List Nmd} {s:List UInt8}
end
theorem nm4_len {x:List UInt8} {n:Nat} (h:x∈nm4.take n):x.length≤1∧wordB x=true:=by
 have h2:=List.mem_of_mem_take h
 simp only[nm4,List.mem_cons,List.not_mem_nil,or_false] at h2
 rcases h2 with rfl|rfl|rfl|rfl<;>exact⟨by decide,by kernel_rfl⟩
end Go.Proofs.YtehaepbflkncdaaGreat.M
namespace Go.Proofs.YtehaepbflkncdaaGreat.K
open Go Go.RowKit Go.Proofs.YtehaepbflkncdaaGreat.M
structure SlA (α:Type) where
  a:Option Addr
  cap:Nat
  xs:List α
instance instSlA {α:Type}:Inhabited (SlA α):=⟨⟨none,0,[]⟩⟩
end Go.Proofs.YtehaepbflkncdaaGreat.K
namespace Go.Proofs.YtehaepbflkncdaaGreat.M
open Go Go.Proofs.YtehaepbflkncdaaGreat.K
structure NmS where
  nm:List UInt8
  c:CvS
instance:Inhabited NmS:=⟨⟨[],⟨none,0,zcv⟩⟩⟩
instance:Inhabited Nmd:=⟨([],zcv)⟩
def NmS.p (x:NmS):Nmd:=(x.nm,x.c.cv)
theorem has_false {l:List NmS} {n:List UInt8} (h:∀ j,j<l.length→(nth l j).nm≠n):hasN (l.map NmS.p) n=false:=by
 unfold hasN
 rw[List.any_eq_false]
 intro x hx
 obtain⟨y,hy,rfl⟩:=List.mem_map.1 hx
 obtain⟨j,hj,rfl⟩:=List.getElem_of_mem hy
 have:=h j hj
 rw[nth_eq hj] at this
 exact fun hh=>this (of_decide_eq_true hh)
theorem find_no {l:List NmS} {n:List UInt8} (h:∀ j,j<l.length→(nth l j).nm≠n):findNm (l.map NmS.p) n=(zcv,5):=by
 rcases find_err (l.map NmS.p) n with e|e
 ·rw[find_has,has_false h] at e;cases e
 ·exact e
end Go.Proofs.YtehaepbflkncdaaGreat.M
namespace Go.Proofs.YtehaepbflkncdaaGreat.K
open Go Go.RowKit
section
variable {P:Program} {T:Tab} {n:Nat} {env:Env} {w0:World} {R:Ro} {E:List Ent} {Q:Exit→Act→World→Prop} {l m:Nat} {ops rest:List Oper} {o:Oper}
def YG (P:Program) (l:Nat) (vs:List Value) (w0:World) (R:Ro) (E1:List Ent) (K:Bool→Ro→List Ent→Prop):Prop :=
  ∀ w,Mem w0 w R E1→YieldAt Fence.wide 0 P l vs.toArray w fun e w'=>∃ b R' E',e=.returned (.bool b)∧RLe R R'∧Mem w0 w' R' E'∧K b R' E'
def IterG {α : Type} (P : Program) (g : FuncId) (lb : List Value) (encs : α → List Value) (Nx : List α → α → Ro → Prop) (Fin Lim : List α → Prop) (R0 : Ro) (EB : List Ent) : Prop :=
  ∀ (w0 : World) (l : Nat) (J JX : List α → Ro → List Ent → Prop), (∀ pre R1 E1, J pre R1 E1 → Lim pre) → (∀ pre R1 R2 E1, RLe R1 R2 → J pre R1 E1 → J pre R2 E1) →
    (∀ pre x R1 E1 F,RLe R0 R1→Nx pre x R1→J pre R1 E1→YG P l (encs x) w0 R1 (E1++F) (fun b R2 E2=>∃ G,E2=G++F∧((b=true∧J (pre++[x]) R2 G)∨(b=false∧JX (pre++[x]) R2 G)))) →
    ∀ R1 E1 F,RLe R0 R1→J [] R1 E1→Fn P g (.func (.yield l) #[] #[]::lb) w0 R1 (E1++(EB++F)) (fun _ R2 E2=>∃ xs G,(G++F).Sublist E2∧((Fin xs∧J xs R2 G)∨JX xs R2 G))
theorem WQ.yieldG {d:Nat} {pc q:Bool} {vs:List Value} {E1:List Ent} {K:Bool→Ro→List Ent→Prop} (hg:gpc ops env o=some pc) (hd:o.dst=some d) (hdn:d<n) (hc:CallY env o.op q l vs) (hpq:pc=true→q=true) (hf:isDefer o.op=false)
  (hE:E.Perm E1) (hy:pc=true→YG P l vs w0 R E1 K) (ht:pc=true→∀ b R2 E2,RLe R R2→K b R2 E2→WQ P none ops Q rest n ((d,pc,.bool b)::env) w0 R2 E2) (hn:pc=false→WQ P none ops Q rest n ((d,pc,.bool true)::env) w0 R E) :
  WQ P none ops Q (o::rest) n env w0 R E:=by
 intro a w hk hm
 unfold wpListIn
 rw[hk.wanted hg]
 cases pc with
 | true =>
  simp only[if_true]
  refine⟨fun _ _=>trivial,?_⟩
  obtain⟨fn,tmps,assign,body,hrun,hR⟩:=hy rfl w (hm.perm hE)
  rw[semAt_plain hf,run_callY hk hc (hpq rfl) hrun,Oper.uponIn_round]
  refine⟨fun h=>by simp[FO,Fence.wide] at h,RoundIn.mono hR ?_⟩
  rintro e w' ⟨b,R2,E2,rfl,hR2,hm',hK⟩
  simp only[hd]
  exact ht rfl b R2 E2 hR2 hK _ _ (hk.put hdn true (.bool b)) hm'
 | false =>
  refine⟨fun _ _=>trivial,?_⟩
  rw[hd]
  exact hn rfl _ _ (hk.put hdn false (.bool true)) hm
theorem WQ.call {r:Option Nat} {d:Nat} {f:FuncId} {vs:List Value} {Post:Value→Ro→List Ent→Prop} (hf:Enters P f) (hg:o.guard=none) (hd:o.dst=some d) (hdn:d<n) (hi:isDefer o.op=false)
  (hc:CallOp env o.op true f vs) (hv:Fn P f vs w0 R E Post) (h:∀ v R' E',RLe R R'→Post v R' E'→WQ P r ops Q rest n ((d,true,v)::env) w0 R' E'):WQ P r ops Q (o::rest) n env w0 R E:=by
 intro a w hk hm
 unfold wpListIn
 rw[show Region.wanted o (yielded ops.toArray a.tmps)=true by simp[Region.wanted,hg]]
 simp only[if_true]
 refine⟨fun _ _=>trivial,?_⟩
 rw[semAt_plain hi,run_call hk hc rfl hf,Oper.uponIn_enter]
 refine⟨fun h=>by simp[FO,Fence.wide] at h,(show CallsIn (FO r) 0 P f vs.toArray w _ from callsIn_wide.2 (hv w hm)).mono ?_⟩
 rintro e w' ⟨v,R',E',rfl,hR,hm',hp⟩
 simp only[hd]
 exact h v R' E' hR hp _ _ (hk.putT hdn v) hm'
theorem WQ.subE {r:Option Nat} {E':List Ent} (hE:E'.Sublist E) (h:WQ P r ops Q rest n env w0 R E'):WQ P r ops Q rest n env w0 R E:=fun a w hk hm=>h a w hk (hm.sub (RLe.refl R) hE)
theorem WR.condE {x y:Code} {c:Operand} {a b:Int} (hc:ev env c=some (true,.bool (a == b))) (ht:a=b→WR P l m x Q n env w0 R E) (hf:a≠b→WR P l m y Q n env w0 R E) :
  WR P l m (.cond c x y) Q n env w0 R E:=WR.cond hc (fun h=>ht (by simpa using h)) (fun h=>hf (by simpa using h))
theorem WR.condN {x y:Code} {c:Operand} {a b:Int} (hc:ev env c=some (true,.bool (a != b))) (ht:a≠b→WR P l m x Q n env w0 R E) (hf:a=b→WR P l m y Q n env w0 R E) :
  WR P l m (.cond c x y) Q n env w0 R E:=WR.cond hc (fun h=>ht (by simpa using h)) (fun h=>hf (by simpa using h))
def WZ (P:Program) (l:Nat) (ops:List Oper) (Q:Exit→Act→World→Prop) (fuel:Nat) (listed:Array Bool) (n:Nat) (env:Env) (w0:World) (R:Ro) (E:List Ent):Prop :=
  ∀ a w,Kn n env a→Mem w0 w R E→wpAnyIn (Fence.wide.inRound l) 0 P .any ops.toArray Q fuel listed a w
def WZS (P:Program) (l:Nat) (ops:List Oper) (Q:Exit→Act→World→Prop) (fuel:Nat) (listed:Array Bool) (n:Nat) (env:Env) (w0:World) (R:Ro) (E:List Ent) (i:Nat):Prop :=
  ∀ a w,Kn n env a→Mem w0 w R E→wpOpIn (Fence.wide.inRound l) 0 P ops.toArray Q i (wpAnyIn (Fence.wide.inRound l) 0 P .any ops.toArray Q fuel (listed.setIfInBounds i true)) a w
variable {fuel:Nat} {listed:Array Bool}
theorem WR.regionZ (id:Nat) {ops:List Oper} (hm:P.follows .mixedOrders=true) (h:WZ P l ops Q ops.toArray.size (Array.replicate ops.toArray.size false) n env w0 R E):WR P l 0 (.region id ops.toArray true) Q n env w0 R E :=
 fun a w hk hw=>wpIn_region_any hm (h a _ hk hw.drew)
theorem WZ.done (hr:Region.ready .any ops.toArray listed=[]) (h:WE Q .normal n env w0 R E):WZ P l ops Q fuel listed n env w0 R E:=fun a w hk hm=>by
 cases fuel with
 | zero=>exact⟨hr,h a w hk hm⟩
 | succ fuel=>exact⟨fun _=>h a w hk hm,fun i hi=>by rw[hr] at hi;cases hi⟩
theorem WZ.one {i:Nat} (hr:Region.ready .any ops.toArray listed=[i]) (h:WZS P l ops Q fuel listed n env w0 R E i):WZ P l ops Q (fuel+1) listed n env w0 R E:=fun a w hk hm =>
 ⟨fun h0 => (by rw [hr] at h0; cases h0), fun j hj => by
  rw[hr,List.mem_singleton] at hj
  subst hj
  exact h a w hk hm⟩
theorem WZ.br2 {i j:Nat} (hr:Region.ready .any ops.toArray listed=[i,j]) (h1:WZS P l ops Q fuel listed n env w0 R E i) (h2:WZS P l ops Q fuel listed n env w0 R E j):WZ P l ops Q (fuel+1) listed n env w0 R E:=fun a w hk hm =>
 ⟨fun h0 => (by rw [hr] at h0; cases h0), fun k hk2 => by
  rw[hr,List.mem_cons,List.mem_singleton] at hk2
  rcases hk2 with rfl|rfl
  ·exact h1 a w hk hm
  ·exact h2 a w hk hm⟩
theorem semAt_plainR {ρ:Operand→Value} (hd:isDefer o.op=false):Oper.semAt (Fence.wide.inRound l).round ρ o=execOp ρ o :=
 Oper.semAt_eq _ _ _ (fun c hc=>by rw[hc] at hd;cases hd)
theorem WZS.yl {v:Value} {d:Nat} {i:Nat} (hi:ops.toArray[i]?=some o) (hg:o.guard=none) (hd:o.dst=some d) (hdn:d<n) (hf:isDefer o.op=false) (hy:Yl P n env w0 R E o true v)
  (h:WZ P l ops Q fuel (listed.setIfInBounds i true) n ((d,true,v)::env) w0 R E):WZS P l ops Q fuel listed n env w0 R E i:=fun a w hk hm=>by
 unfold wpOpIn
 simp only[hi]
 rw[show Region.wanted o (yielded ops.toArray a.tmps)=true by simp[Region.wanted,hg]]
 simp only[if_true]
 refine⟨fun _ _=>trivial,?_⟩
 rw[semAt_plainR hf,hy a w hk hm rfl,Oper.uponIn_value,hd]
 exact h _ _ (hk.putT hdn v) hm
theorem WZS.effN {i:Nat} (hi:ops.toArray[i]?=some o) (hg:o.guard=none) (hd:o.dst=none) (hf:isDefer o.op=false)
  (h:Ef P n env w0 R E o fun _ R' E'=>WZ P l ops Q fuel (listed.setIfInBounds i true) n env w0 R' E'):WZS P l ops Q fuel listed n env w0 R E i:=fun a w hk hm=>by
 unfold wpOpIn
 simp only[hi]
 rw[show Region.wanted o (yielded ops.toArray a.tmps)=true by simp[Region.wanted,hg]]
 simp only[if_true]
 refine⟨fun _ _=>trivial,?_⟩
 obtain⟨v,w',R',E',hrun,hm',hn⟩:=h a w hk hm
 rw[semAt_plainR hf]
 rcases hrun with hrun|⟨hrun,rfl⟩
 ·rw[hrun,Oper.uponIn_value,hd];exact hn _ _ hk hm'
 ·rw[hrun,Oper.uponIn_skip,hd];exact hn _ _ hk hm'
def RPost (w0:World) (R:Ro) (K:Option Code→Ro→List Ent→Prop):Exit→Act→World→Prop
  | .normal,_,w=>∃ R' E',RLe R R'∧Mem w0 w R' E'∧K none R' E'
  | .ret,_,w=>∃ R' E',RLe R R'∧Mem w0 w R' E'∧K (some .ret) R' E'
  | .exit id,_,w=>∃ R' E',RLe R R'∧Mem w0 w R' E'∧K (some (.exit id)) R' E'
  | _,_,_=>False
variable {K:Option Code→Ro→List Ent→Prop} {R0:Ro}
theorem WE.rnorm (hR:RLe R0 R) {E':List Ent} (hE:∃ E'',E.Perm E''∧E'.Sublist E'') (h:K none R E'):WE (RPost w0 R0 K) .normal n env w0 R E:=fun a w _ hm=>by
 obtain⟨E'',h1,h2⟩:=hE
 exact⟨R,E',hR,(hm.perm h1).sub (RLe.refl R) h2,h⟩
theorem WE.rret (hR:RLe R0 R) {E':List Ent} (hE:∃ E'',E.Perm E''∧E'.Sublist E'') (h:K (some .ret) R E'):WE (RPost w0 R0 K) .ret n env w0 R E:=fun a w _ hm=>by
 obtain⟨E'',h1,h2⟩:=hE
 exact⟨R,E',hR,(hm.perm h1).sub (RLe.refl R) h2,h⟩
theorem WE.rexit {id:Nat} (hR:RLe R0 R) {E':List Ent} (hE:∃ E'',E.Perm E''∧E'.Sublist E'') (h:K (some (.exit id)) R E'):WE (RPost w0 R0 K) (.exit id) n env w0 R E:=fun a w _ hm=>by
 obtain⟨E'',h1,h2⟩:=hE
 exact⟨R,E',hR,(hm.perm h1).sub (RLe.refl R) h2,h⟩
theorem WE.asgG {β:Type} {inv:β→Ro→Prop} {en:β→Env} {E1:β→List Ent} {F:List Ent} (b:β) (hR:RLe R0 R) (hi:inv b R) (hs:Sub (en b) env) (hE:(E1 b++F).Sublist E) :
  WE (Exit.then (fun a w=>∃ b R3,RLe R0 R3∧inv b R3∧Kn n (en b) a∧Mem w0 w R3 (E1 b++F)) Q) .normal n env w0 R E:=fun _ _ hk hm=>⟨b,R,hR,hi,hk.sub hs,hm.sub (RLe.refl R) hE⟩
def RK {α σ τ:Type} (I:List α→σ→Ro→Prop) (EE:List α→σ→List Ent) (IX:Code→List α→τ→Ro→Prop) (EX:Code→List α→τ→List Ent) (xs:List α) (F:List Ent) (c:Option Code) (R':Ro) (E':List Ent):Prop :=
  match c with
  | none=>∃ s,I xs s R'∧E'=EE xs s++F
  | some c=>∃ t,IX c xs t R'∧E'=EX c xs t++F
section
variable {α σ τ:Type} {I:List α→σ→Ro→Prop} {EE:List α→σ→List Ent} {IX:Code→List α→τ→Ro→Prop} {EX:Code→List α→τ→List Ent} {xs:List α} {F:List Ent} {R':Ro}
theorem RK.go (s:σ) (h:I xs s R'):RK I EE IX EX xs F none R' (EE xs s++F):=⟨s,h,rfl⟩
theorem RK.out {c:Code} (t:τ) (h:IX c xs t R'):RK I EE IX EX xs F (some c) R' (EX c xs t++F):=⟨t,h,rfl⟩
end
abbrev lrec (fn:FuncId) (tmps:Array Value) (ps:Array Tmp) (assign body:Code) (D:Nat) (st:LoopState) (pe:Option Code):Loop:={ state:=st,pending:=pe,fn,tmps,params:=ps,assign,body,defers:=D }
theorem rounds_ok {α σ τ:Type} {assign body:Code} {encs:α→List Value} {ps:List Nat} {Nx:List α→α→Ro→Prop} {β:Type} {I:List α→σ→Ro→Prop} {EE:List α→σ→List Ent} {IX:Code→List α→τ→Ro→Prop} {EX:Code→List α→τ→List Ent}
  {inv:List α→α→σ→β→Ro→Prop} {en:List α→α→σ→β→Env} {E1:List α→α→σ→β→List Ent} {L:Nat} {tmps:Array Value} {fn:FuncId} {D:Nat} {R1:Ro} {G:List Ent} {a:Act}
  (hk:Kn n env a) (hat:a={ tmps:=tmps,defers:=[] }) (hps:∀ x,(encs x).length=ps.length) (hpn:∀ p∈ps,p<n)
  (hass:∀ l pre s x R2 F,RLe R1 R2→Nx pre x R2→I pre s R2→WR P l 0 assign (Exit.then (fun a w=>∃ b R3,RLe R2 R3∧inv pre x s b R3∧Kn n (en pre x s b) a∧Mem w0 w R3 (E1 pre x s b++F)) (fun _ _ _=>False)) n (putEnv ps (encs x) env) w0 R2 (EE pre s++F))
  (hbody:∀ l rc pre s x b R2 F,rc.defers=D→RLe R1 R2→inv pre x s b R2→WR P l 0 body (RPost w0 R2 (RK I EE IX EX (pre++[x]) (.obj l (.loop rc)::F))) n (en pre x s b) w0 R2 (E1 pre x s b++(.obj l (.loop rc)::F)))
  :
  ∀ pre x R2 E2 F,RLe R1 R2→Nx pre x R2→(∃ s,I pre s R2∧E2=.obj L (.loop (lrec fn tmps ps.toArray assign body D .ready none))::(G++EE pre s))→YG P L (encs x) w0 R2 (E2++F) (fun b R3 E3=>∃ G3,E3=G3++F∧((b=true∧∃ s,I (pre++[x]) s R3∧G3=.obj L (.loop (lrec fn tmps ps.toArray assign body D .ready none))::(G++EE (pre++[x]) s))∨(b=false∧∃ c t,IX c (pre++[x]) t R3∧G3=.obj L (.loop (lrec fn tmps ps.toArray assign body D .done (some c)))::(G++EX c (pre++[x]) t)))):=by
 rintro pre x R2 E2 F hR2 hNx ⟨s,hI,rfl⟩ W hW
 rw[List.cons_append] at hW
 have hl:=Mem.getObj hW
 have hy:=run_yield (P:=P) (args:=(encs x).toArray) hl (by simp[hps x])
 refine⟨fn,_,assign,body,hy,roundIn_of_wpIn trivial (wpIn_mono (hass L pre s x R2 (.obj L (.loop (lrec fn tmps ps.toArray assign body D .ready none))::(G++F)) hR2 hNx hI _ W ?_ ?_) ?_)⟩
 ·have:=hk.putAll (vs:=encs x) hpn
  rw[hat] at this
  simpa using this
 ·refine hW.perm ?_
  refine List.Perm.trans ?_ List.perm_middle.symm
  refine List.Perm.cons _ ?_
  rw[List.append_assoc]
  exact List.perm_append_comm_assoc _ _ _
 ·rintro e a1 w1 hp
  cases e with
  | normal =>
   obtain⟨b,R3,hR3,hi,hk1,hm1⟩:=hp
   have hm2:=hm1.perm List.perm_middle
   have hl2:=Mem.getObj hm2
   refine⟨_,run_beginRound hl2 rfl,wpIn_mono (hbody L (lrec fn tmps ps.toArray assign body D .busy none) pre s x b R3 (G++F) rfl (hR2.trans hR3) hi a1 _ hk1 ((hm2.putObj _).perm List.perm_middle.symm)) ?_⟩
   have fin:∀ (jump:Option Code) {w3:World} {R4:Ro} {H:List Ent},Mem w0 w3 R4 (H++(.obj L (.loop (lrec fn tmps ps.toArray assign body D .busy none))::(G++F))) →
     ∃ w',(Instr.endRound L jump).run P w3=.ok (.bool jump.isNone) w'∧Mem w0 w' R4 ((.obj L (.loop (lrec fn tmps ps.toArray assign body D (if jump.isNone then .ready else .done) jump))::(G++H))++F):=fun jump {w3 R4 H} hm3=>by
    have hm4:=hm3.perm List.perm_middle
    have hl4:=Mem.getObj hm4
    refine⟨_,run_endRound jump hl4,?_⟩
    have hm5:=hm4.putObj (.loop { lrec fn tmps ps.toArray assign body D .busy none with state:=if jump.isNone then .ready else .done,pending:=jump })
    refine hm5.perm ?_
    rw[List.cons_append,List.append_assoc]
    exact List.Perm.cons _ (List.perm_append_comm_assoc _ _ _)
   rintro e a3 w3 hp3
   cases e with
   | normal =>
    obtain⟨R4,E4,hR4,hm3,s',hI',rfl⟩:=hp3
    obtain⟨w',hr,hm'⟩:=fin none hm3
    exact⟨_,w',hr,true,R4,_,rfl,hR3.trans hR4,hm',_,rfl,.inl ⟨rfl,s',hI',rfl⟩⟩
   | ret =>
    obtain⟨R4,E4,hR4,hm3,t,hI',rfl⟩:=hp3
    obtain⟨w',hr,hm'⟩:=fin (some .ret) hm3
    exact⟨_,w',hr,false,R4,_,rfl,hR3.trans hR4,hm',_,rfl,.inr ⟨rfl,.ret,t,hI',rfl⟩⟩
   | exit id =>
    obtain⟨R4,E4,hR4,hm3,t,hI',rfl⟩:=hp3
    obtain⟨w',hr,hm'⟩:=fin (some (.exit id)) hm3
    exact⟨_,w',hr,false,R4,_,rfl,hR3.trans hR4,hm',_,rfl,.inr ⟨rfl,.exit id,t,hI',rfl⟩⟩
   | _=>exact hp3.elim
  | _=>exact hp.elim
theorem W.rangeFuncG {α σ τ β:Type} {g:Operand} {ps:List Nat} {assign body:Code} {gf:FuncId} {lb:List Value} {encs:α→List Value} {Nx:List α→α→Ro→Prop} {Fin Lim:List α→Prop} {R0:Ro} {EB Rest:List Ent}
  (I:List α→σ→Ro→Prop) (EE:List α→σ→List Ent) (IX:Code→List α→τ→Ro→Prop) (EX:Code→List α→τ→List Ent) (inv:List α→α→σ→β→Ro→Prop) (en:List α→α→σ→β→Env) (E1:List α→α→σ→β→List Ent) (s0:σ)
  (hg:ev env g=some (true,.func (.func gf) #[] lb.toArray)) (eg:Enters P gf) (hit:IterG P gf lb encs Nx Fin Lim R0 EB) (hR0:RLe R0 R) (hps:∀ x,(encs x).length=ps.length) (hpn:∀ p∈ps,p<n) (hmark:markOf env=none)
  (hE:E.Perm (EE [] s0++(EB++Rest))) (h0:I [] s0 R) (hlim:∀ pre s R1,I pre s R1→Lim pre) (hmono:∀ pre s R1 R2,RLe R1 R2→I pre s R1→I pre s R2)
  (hass:∀ l pre s x R2 F,RLe R R2→Nx pre x R2→I pre s R2→WR P l 0 assign (Exit.then (fun a w=>∃ b R3,RLe R2 R3∧inv pre x s b R3∧Kn n (en pre x s b) a∧Mem w0 w R3 (E1 pre x s b++F)) (fun _ _ _=>False)) n (putEnv ps (encs x) env) w0 R2 (EE pre s++F))
  (hbody:∀ l rc pre s x b R2 F,RLe R R2→inv pre x s b R2→WR P l 0 body (RPost w0 R2 (RK I EE IX EX (pre++[x]) (.obj l (.loop rc)::F))) n (en pre x s b) w0 R2 (E1 pre x s b++(.obj l (.loop rc)::F)))
  (hdone:∀ D xs s R2,RLe R R2→Fin xs→I xs s R2→WE Q .normal n ((99999,true,.pointer (some ⟨D,0,none⟩))::env) w0 R2 (.obj D (.deferred (some []))::(EE xs s++Rest)))
  (hstop:∀ D c xs t R2,RLe R R2→IX c xs t R2→W P c Q n ((99999,true,.pointer (some ⟨D,0,none⟩))::env) w0 R2 (.obj D (.deferred (some []))::(EX c xs t++Rest))) :
  W P (.rangeFunc g ps.toArray assign body) Q n env w0 R E:=by
 intro a w hk hm
 have hdef:a.defers=[]:=by rw[hk.defers];unfold dsOf;rw[hmark]
 have ha0:a={ tmps:=a.tmps,defers:=[] }:=by cases a;simp only at hdef;subst hdef;rfl
 refine wpIn_wide.1 (wpIn_rangeFunc (F:=Fence.wide) (n:=0) ?_)
 intro fn hfn
 have hm1:=(hm.newObj (.deferred (some []))).newObj (.loop (lrec fn a.tmps ps.toArray assign body w.heap.size .ready none))
 rw[World.size_alloc] at hm1
 obtain⟨W1,hW1⟩:∃ W1,(w.alloc (.deferred (some []))).alloc (.loop (lrec fn a.tmps ps.toArray assign body w.heap.size .ready none))=W1:=⟨_,rfl⟩
 rw[hW1] at hm1
 have hkD:∀ {a2:Act},a2={ a with defers:=[{ target:=.collected w.heap.size,args:=#[] }]++a.defers }→Kn n ((99999,true,.pointer (some ⟨w.heap.size,0,none⟩))::env) a2:=fun {a2} h2=>by
  subst h2
  rw[hdef]
  refine⟨hk.size,hk.small,rfl,fun t p v ht=>?_⟩
  have h9:Nat.beq 99999 t=false:=by
   cases h9:Nat.beq 99999 t with
   | false=>rfl
   | true=>simp[look,← beq_true h9] at ht
  simp only[look,h9,cond_false] at ht
  exact hk.val t p v ht
 refine⟨w.heap.size+1,[{ target:=.collected w.heap.size,args:=#[] }],W1,{ target:=.fn (.func gf) lb.toArray,args:=#[.func (.yield (w.heap.size+1)) #[] #[]] },W1,gf,
  #[.func (.yield (w.heap.size+1)) #[] #[]]++lb.toArray,W1,by rw[← hW1];exact run_enterLoop_outer _ _ _ _ _,?_,fun _ _=>trivial,?_,fun h=>by simp[Fence.wide] at h,?_⟩
 ·simp only[resolve,hk.ev hg rfl]
  simp[go_sem]
 ·have:=eg
  simp[invoke,go_sem]
  exact eg _ _
 ·rw[callsIn_wide]
  have hcall:=hit w0 (w.heap.size+1) (fun pre R2 E2=>RLe R R2∧∃ s,I pre s R2∧E2=.obj (w.heap.size+1) (.loop (lrec fn a.tmps ps.toArray assign body w.heap.size .ready none))::([.obj w.heap.size (.deferred (some []))]++EE pre s))
   (fun pre R2 E2=>RLe R R2∧∃ c t,IX c pre t R2∧E2=.obj (w.heap.size+1) (.loop (lrec fn a.tmps ps.toArray assign body w.heap.size .done (some c)))::([.obj w.heap.size (.deferred (some []))]++EX c pre t))
   (fun pre R2 E2 ⟨_,s,hs,_⟩=>hlim pre s R2 hs) (fun pre R2 R3 E2 h3 ⟨h,s,hs,he⟩=>⟨h.trans h3,s,hmono pre s R2 R3 h3 hs,he⟩)
   (fun pre x R2 E2 F h02 hNx ⟨h, hJ⟩ W hW => by
    obtain⟨fn',tm',as',bo',hr,hb⟩:=rounds_ok (R1:=R) hk ha0 hps hpn hass (fun l rc pre s x b R2 F _=>hbody l rc pre s x b R2 F) (fn:=fn) (D:=w.heap.size) pre x R2 E2 F h hNx hJ W hW
    refine⟨fn',tm',as',bo',hr,RoundIn.mono hb ?_⟩
    rintro e w' ⟨b,R3,E3,he,hR3,hm3,G,hG,hc⟩
    refine⟨b,R3,E3,he,hR3,hm3,G,hG,?_⟩
    rcases hc with ⟨hb,hc⟩|⟨hb,hc⟩
    ·exact .inl ⟨hb,h.trans hR3,hc⟩
    ·exact .inr ⟨hb,h.trans hR3,hc⟩)
   R _ Rest hR0 ⟨RLe.refl R,s0,h0,rfl⟩ W1 (hm1.perm ((hE.cons _).cons _))
  have eargs:(#[Value.func (.yield (w.heap.size+1)) #[] #[]]++lb.toArray)=(Value.func (.yield (w.heap.size+1)) #[] #[]::lb).toArray:=by simp
  rw[eargs]
  refine hcall.mono ?_
  rintro e w' ⟨v,R',E',rfl,hR,hm',xs,G,hsub,h⟩
  have hm6:=hm'.sub (RLe.refl R') hsub
  rcases h with ⟨hF,h,s,hs,rfl⟩|⟨h,c,t,ht,rfl⟩
  ·have hl6:=Mem.getObj hm6
   have hend:=run_endLoop (P:=P) hl6 (by simp)
   have hm7:=(hm6.putObj (.loop { lrec fn a.tmps ps.toArray assign body w.heap.size .ready none with state:=.exhausted })).sub (RLe.refl R') (List.sublist_cons_self _ _)
   exact⟨none,_,hend,hdone w.heap.size xs s R' hR hF hs _ _ (hkD rfl) hm7⟩
  ·have hl6:=Mem.getObj hm6
   have hend:=run_endLoop (P:=P) hl6 (by simp)
   have hm7:=(hm6.putObj (.loop { lrec fn a.tmps ps.toArray assign body w.heap.size .done (some c) with state:=.exhausted })).sub (RLe.refl R') (List.sublist_cons_self _ _)
   exact⟨some c,_,hend,wpIn_wide.2 (hstop w.heap.size c xs t R' hR ht _ _ (hkD rfl) hm7)⟩
theorem WR.rangeFuncG {α σ τ β:Type} {g:Operand} {ps:List Nat} {assign body:Code} {gf:FuncId} {lb:List Value} {encs:α→List Value} {Nx:List α→α→Ro→Prop} {Fin Lim:List α→Prop} {R0:Ro} {EB Rest:List Ent} {rc:Loop} (i:Nat)
  (I:List α→σ→Ro→Prop) (EE:List α→σ→List Ent) (IX:Code→List α→τ→Ro→Prop) (EX:Code→List α→τ→List Ent) (inv:List α→α→σ→β→Ro→Prop) (en:List α→α→σ→β→Env) (E1:List α→α→σ→β→List Ent) (s0:σ)
  (hg:ev env g=some (true,.func (.func gf) #[] lb.toArray)) (eg:Enters P gf) (hit:IterG P gf lb encs Nx Fin Lim R0 EB) (hR0:RLe R0 R) (hps:∀ x,(encs x).length=ps.length) (hpn:∀ p∈ps,p<n) (hmark:markOf env=none) (hl:E[i]?=some (.obj l (.loop rc)))
  (hE:E.Perm (EE [] s0++(EB++Rest))) (h0:I [] s0 R) (hlim:∀ pre s R1,I pre s R1→Lim pre) (hmono:∀ pre s R1 R2,RLe R1 R2→I pre s R1→I pre s R2)
  (hass:∀ l pre s x R2 F,RLe R R2→Nx pre x R2→I pre s R2→WR P l 0 assign (Exit.then (fun a w=>∃ b R3,RLe R2 R3∧inv pre x s b R3∧Kn n (en pre x s b) a∧Mem w0 w R3 (E1 pre x s b++F)) (fun _ _ _=>False)) n (putEnv ps (encs x) env) w0 R2 (EE pre s++F))
  (hbody:∀ l rc pre s x b R2 F,RLe R R2→inv pre x s b R2→WR P l 0 body (RPost w0 R2 (RK I EE IX EX (pre++[x]) (.obj l (.loop rc)::F))) n (en pre x s b) w0 R2 (E1 pre x s b++(.obj l (.loop rc)::F)))
  (hdone:∀ xs s R2,RLe R R2→Fin xs→I xs s R2→WE Q .normal n env w0 R2 (EE xs s++Rest))
  (hstop:∀ c xs t R2,RLe R R2→IX c xs t R2→WR P l 0 c Q n env w0 R2 (EX c xs t++Rest)) :
  WR P l 0 (.rangeFunc g ps.toArray assign body) Q n env w0 R E:=by
 intro a w hk hm
 have hdef:a.defers=[]:=by rw[hk.defers];unfold dsOf;rw[hmark]
 have ha0:a={ tmps:=a.tmps,defers:=[] }:=by cases a;simp only at hdef;subst hdef;rfl
 refine wpIn_rangeFunc (F:=Fence.wide.inRound l) (n:=0) ?_
 intro fn hfn
 have hrc:=Mem.getObj (hm.perm (perm_get hl))
 have hm1:=hm.newObj (.loop (lrec fn a.tmps ps.toArray assign body rc.defers .ready none))
 obtain⟨W1,hW1⟩:∃ W1,w.alloc (.loop (lrec fn a.tmps ps.toArray assign body rc.defers .ready none))=W1:=⟨_,rfl⟩
 rw[hW1] at hm1
 refine⟨w.heap.size,[],W1,{ target:=.fn (.func gf) lb.toArray,args:=#[.func (.yield w.heap.size) #[] #[]] },W1,gf,
  #[.func (.yield w.heap.size) #[] #[]]++lb.toArray,W1,by rw[← hW1];exact run_enterLoop_inner hrc _ _ _ _ _,?_,fun _ _=>trivial,?_,fun h=>by simp[Fence.wide,Fence.inRound] at h,?_⟩
 ·simp only[resolve,hk.ev hg rfl]
  simp[go_sem]
 ·have:=eg
  simp[invoke,go_sem]
  exact eg _ _
 ·have hcall:=hit w0 w.heap.size (fun pre R2 E2=>RLe R R2∧∃ s,I pre s R2∧E2=.obj w.heap.size (.loop (lrec fn a.tmps ps.toArray assign body rc.defers .ready none))::([]++EE pre s))
   (fun pre R2 E2=>RLe R R2∧∃ c t,IX c pre t R2∧E2=.obj w.heap.size (.loop (lrec fn a.tmps ps.toArray assign body rc.defers .done (some c)))::([]++EX c pre t))
   (fun pre R2 E2 ⟨_,s,hs,_⟩=>hlim pre s R2 hs) (fun pre R2 R3 E2 h3 ⟨h,s,hs,he⟩=>⟨h.trans h3,s,hmono pre s R2 R3 h3 hs,he⟩)
   (fun pre x R2 E2 F h02 hNx ⟨h, hJ⟩ W hW => by
    obtain⟨fn',tm',as',bo',hr,hb⟩:=rounds_ok (R1:=R) hk ha0 hps hpn hass (fun l rc pre s x b R2 F _=>hbody l rc pre s x b R2 F) (fn:=fn) (D:=rc.defers) pre x R2 E2 F h hNx hJ W hW
    refine⟨fn',tm',as',bo',hr,RoundIn.mono hb ?_⟩
    rintro e w' ⟨b,R3,E3,he,hR3,hm3,G,hG,hc⟩
    refine⟨b,R3,E3,he,hR3,hm3,G,hG,?_⟩
    rcases hc with ⟨hb,hc⟩|⟨hb,hc⟩
    ·exact .inl ⟨hb,h.trans hR3,hc⟩
    ·exact .inr ⟨hb,h.trans hR3,hc⟩)
   R _ Rest hR0 ⟨RLe.refl R,s0,h0,rfl⟩ W1 (hm1.perm (hE.cons _))
  have eargs:(#[Value.func (.yield w.heap.size) #[] #[]]++lb.toArray)=(Value.func (.yield w.heap.size) #[] #[]::lb).toArray:=by simp
  rw[eargs]
  refine((show CallsIn (Fence.wide.inRound l) 0 P gf _ W1 _ from callsIn_wide.2 hcall)).mono ?_
  rintro e w' ⟨v,R',E',rfl,hR,hm',xs,G,hsub,h⟩
  have hm6:=hm'.sub (RLe.refl R') hsub
  have ha1:({ a with defers:=[]++a.defers }:Act)=a:=by cases a;rfl
  rcases h with ⟨hF,h,s,hs,rfl⟩|⟨h,c,t,ht,rfl⟩
  ·have hl6:=Mem.getObj hm6
   have hend:=run_endLoop (P:=P) hl6 (by simp)
   have hm7:=(hm6.putObj (.loop { lrec fn a.tmps ps.toArray assign body rc.defers .ready none with state:=.exhausted })).sub (RLe.refl R') (List.sublist_cons_self _ _)
   exact⟨none,_,hend,by rw[ha1];exact hdone xs s R' hR hF hs _ _ hk hm7⟩
  ·have hl6:=Mem.getObj hm6
   have hend:=run_endLoop (P:=P) hl6 (by simp)
   have hm7:=(hm6.putObj (.loop { lrec fn a.tmps ps.toArray assign body rc.defers .done (some c) with state:=.exhausted })).sub (RLe.refl R') (List.sublist_cons_self _ _)
   exact⟨some c,_,hend,by rw[ha1];exact hstop c xs t R' hR ht _ _ hk hm7⟩
end
section
variable {P:Program} {T:Tab} {n:Nat} {env:Env} {w0:World} {R:Ro} {E:List Ent} {o:Oper} {pc p q r:Bool}
end
section
variable {P:Program} {T:Tab} {n:Nat} {env:Env} {w0:World} {R:Ro} {E:List Ent} {o:Oper} {pc p q r:Bool}
end
end Go.Proofs.YtehaepbflkncdaaGreat.K
namespace Go.Proofs.YtehaepbflkncdaaGreat.M
open Go Go.Proofs.YtehaepbflkncdaaGreat.K
def noExit (n:Int):List UInt8→Prop
  | []=>True
  | c::r=>¬ ((c.toNat:Int)<48∨57<(c.toNat:Int)∨1073741824<n)∧noExit (10*n+((c.toNat:Int) - 48)) r
end Go.Proofs.YtehaepbflkncdaaGreat.M
namespace Go.Proofs.YtehaepbflkncdaaGreat.K
open Go Go.RowKit
section
variable {P:Program} {T:Tab} {n:Nat} {env:Env} {w0:World} {R:Ro} {E:List Ent} {o:Oper} {pc p q r:Bool}
end
def RBelow (w0:World) (R:Ro):Prop:=∀ b cs,R b=some cs→b<w0.heap.size
theorem FnV.ofOwn {P:Program} {f:FuncId} {args:List Value} {R:Ro} {v:Value} (h:∀ w0,RBelow w0 R→Fn P f args w0 R [] (fun v' _ _=>v'=v)):FnV P f args R v:=by
 intro w0 E w hm
 have hm0:Mem w w R []:=⟨Below.refl _ w,hm.ro,fun e he=>(by cases he),fun e he=>(by cases he),List.Pairwise.nil⟩
 refine(h w (fun b cs hb=>hm.ro_lt hb) w hm0).mono ?_
 rintro e w' ⟨v',R',E',rfl,_,hm',rfl⟩
 exact⟨rfl,hm.belowAll hm'.below⟩
section
variable {P:Program} {T:Tab} {n:Nat} {env:Env} {w0:World} {R:Ro} {E:List Ent} {o:Oper} {pc p q r:Bool}
theorem Yl.remK {k:IntKind} {t t' x y} {a b:Int} (ho:o.op=.binOp .rem t x y t') (hx:ev env x=some (p,.int k a)) (hy:ev env y=some (q,.int k b))
  (hpq:pc=true→(p && q)=true) (h0:pc=true→0≤a) (hb:pc=true→0<b):Yl P n env w0 R E o pc (.int k (a % b)):=by
 intro ac w hk hm hp
 obtain⟨h1,h2⟩:=and_both (hpq hp)
 have hb:=hb hp
 have e1:a.tmod b=a % b:=Int.tmod_eq_emod_of_nonneg (h0 hp)
 have hb0:b≠0:=by omega
 unfold execOp
 simp[ho,hk.ev hx h1,hk.ev hy h2,eqGuard,binOp,Op.intDiv,hb0,e1]
end
end Go.Proofs.YtehaepbflkncdaaGreat.K
namespace Go.Proofs.YtehaepbflkncdaaGreat.K
open Go Go.RowKit Go.Proofs.YtehaepbflkncdaaGreat.M
section
variable {P:Program} {T:Tab} {n:Nat} {env:Env} {w0:World} {R:Ro} {E:List Ent} {o:Oper} {pc p q:Bool}
def entS:Nat→List (List UInt8)→List MapEntry
  | _,[]=>[]
  | k,x::l=>{ key:=.string (str x),val:=.bool true,born:=k }::entS (k+1) l
def setO (l:List (List UInt8)):Obj:=.map (entS 0 l).toArray l.length
theorem entS_snoc:∀ (l:List (List UInt8)) (k:Nat) (x:List UInt8),entS k (l++[x])=entS k l++[{ key:=.string (str x),val:=.bool true,born:=k+l.length }]
 | [],k,x=>by simp[entS]
 | y::l,k,x=>by
  rw[List.cons_append,entS,entS_snoc l (k+1) x,entS,List.length_cons,show k+1+l.length=k+(l.length+1) by omega]
  rfl
theorem setO_snoc (l:List (List UInt8)) (x:List UInt8):Obj.map ((entS 0 l).toArray.push { key:=.string (str x),val:=.bool true,born:=l.length }) (l.length+1)=setO (l++[x]):=by
 unfold setO
 rw[entS_snoc,List.length_append,Nat.zero_add]
 simp
theorem same_str (x y:List UInt8):Instr.sameNow .string (.string (str x)) (.string (str y))=some (decide (x=y)):=by
 have h:(str x == str y)=decide (x=y):=by
  show ((str x).data == (str y).data)=_
  by_cases e:x=y
  ·subst e;rw[decide_eq_true rfl];exact beq_iff_eq.2 rfl
  ·rw[decide_eq_false e];exact beq_eq_false_iff_ne.2 (fun h=>e (str_inj (ByteArray.ext h)))
 show some (str x == str y)=_
 rw[h]
theorem find_no:∀ (l:List (List UInt8)) (k i:Nat) (x:List UInt8),x∉l→Instr.findNow .string (.string (str x)) (entS k l) i=some none
 | [],_,_,_,_=>rfl
 | y::l,k,i,x,h=>by
  have h1:x≠y:=fun e=>h (by rw[e];simp)
  have h2:=find_no l (k+1) (i+1) x (fun hx=>h (by simp[hx]))
  unfold entS Instr.findNow
  simp[same_str,h1,h2]
theorem find_yes:∀ (l:List (List UInt8)) (k i:Nat) (x:List UInt8),x∈l→∃ j,Instr.findNow .string (.string (str x)) (entS k l) i=some (some (j,.bool true))
 | [],_,_,_,h=>by simp at h
 | y :: l, k, i, x, h => by
  unfold entS Instr.findNow
  by_cases h1:x=y
  ·subst h1
   exact⟨i,by simp[same_str]⟩
  ·obtain⟨j,h2⟩:=find_yes l (k+1) (i+1) x (by rcases List.mem_cons.1 h with h|h;exact absurd h h1;exact h)
   exact⟨j,by simp[same_str,h1,h2]⟩
theorem Ef.setAdd {K:Value→Ro→List Ent→Prop} {t kt et:TypeId} {x y z:Operand} {b:Nat} {l:List (List UInt8)} {s:List UInt8} {d d2:TD} (hT:TabOk P T) (ho:o.op=.mapUpdate t x y z) (hd:T.at t=some d) (hkd:d.k=.map kt et) (hd2:T.at kt=some d2) (hk2:d2.k=.str)
  (hx:ev env x=some (true,.map (some b))) (hy:ev env y=some (true,.string (str s))) (hz:ev env z=some (true,.bool true)) (hf:s∉l)
  (hK:K undef R (.obj b (setO (l++[s]))::E)):Ef P n env w0 R (.obj b (setO l)::E) o K:=by
 intro a w hk hm
 have hb:=hm.getObj
 have hm1:=under_map hT hd hkd
 have hu2:=hT.str hd2 hk2
 have hc:(Instr.checkKey false 10000 kt (.string (str s))).run P w=.ok () w:=MapKept.run_checkKey (k:=.string (str s)) hu2 (by simp[MapKept.IsKey]) false 9999
 rw[← setO_snoc] at hK
 have hf':Instr.findNow .string (.string (str s)) (entS 0 l).toArray.toList 0=some none:=find_no l 0 0 s hf
 refine⟨undef,w.putObj b _,R,_,.inr ⟨?_,rfl⟩,hm.putObj _,hK⟩
 unfold execOp
 unfold setO at hb
 simp[ho,hk.ev hx rfl,hk.ev hy rfl,hk.ev hz rfl,Instr.mapUpdate,run_underlying hm1,MapKept.run_getObj_map hb,hc,MapKept.run_findKey hu2 hf',MapKept.run_setObj_map _ hb,Result.andThen,World.putObj]
theorem Yl.setHas {t kt et:TypeId} {x y:Operand} {b:Nat} {l:List (List UInt8)} {s:List UInt8} {d d2:TD} (hT:TabOk P T) (ho:o.op=.lookup t x y false) (hd:T.at t=some d) (hkd:d.k=.map kt et) (hd2:T.at kt=some d2) (hk2:d2.k=.str) (hz:(P.info? et).bind (·.zero)=some (.bool false))
  (hx:ev env x=some (p,.map (some b))) (hy:ev env y=some (q,.string (str s))) (hpq:pc=true→(p && q)=true):Yl P n env w0 R (.obj b (setO l)::E) o pc (.bool (decide (s∈l))):=by
 intro a w hk hm hpc
 obtain⟨h1,h2⟩:=and_both (hpq hpc)
 have hb:=hm.getObj
 have hm1:=under_map hT hd hkd
 have hu2:=hT.str hd2 hk2
 have hc:∀ e,(Instr.checkKey e 10000 kt (.string (str s))).run P w=.ok () w:=fun e=>MapKept.run_checkKey (k:=.string (str s)) hu2 (by simp[MapKept.IsKey]) e 9999
 have hz':(zeroValue et).run P w=.ok (.bool false) w:=by
  cases hi:P.info? et with
  | none=>rw[hi] at hz;cases hz
  | some inf =>
   rw[hi] at hz
   have:inf.zero=some (.bool false):=hz
   simp[zeroValue,typeInfo,hi,this]
 unfold setO at hb
 unfold execOp
 by_cases hs:s∈l
 ·obtain⟨j,hf⟩:=find_yes l 0 0 s hs
  have hf':Instr.findNow .string (.string (str s)) (entS 0 l).toArray.toList 0=some (some (j,.bool true)):=hf
  simp[ho,hk.ev hx h1,hk.ev hy h2,Instr.lookup,run_underlying hm1,MapKept.run_getObj_map hb,hc,MapKept.run_findKey hu2 hf',Result.andThen,hs]
 ·have hf':Instr.findNow .string (.string (str s)) (entS 0 l).toArray.toList 0=some none:=find_no l 0 0 s hs
  simp[ho,hk.ev hx h1,hk.ev hy h2,Instr.lookup,run_underlying hm1,MapKept.run_getObj_map hb,hc,MapKept.run_findKey hu2 hf',hz',Result.andThen,hs]
end
section
variable {P:Program} {T:Tab} {n:Nat} {env:Env} {w0:World} {R:Ro} {E:List Ent} {o:Oper} {pc p q:Bool}
def entZ:Nat→List Int→List MapEntry
  | _,[]=>[]
  | k,x::l=>{ key:=.int .i64 x,val:=.bool true,born:=k }::entZ (k+1) l
def setZ (l:List Int):Obj:=.map (entZ 0 l).toArray l.length
theorem entZ_snoc:∀ (l:List Int) (k:Nat) (x:Int),entZ k (l++[x])=entZ k l++[{ key:=.int .i64 x,val:=.bool true,born:=k+l.length }]
 | [],k,x=>by simp[entZ]
 | y::l,k,x=>by
  rw[List.cons_append,entZ,entZ_snoc l (k+1) x,entZ,List.length_cons,show k+1+l.length=k+(l.length+1) by omega]
  rfl
theorem setZ_snoc (l:List Int) (x:Int):Obj.map ((entZ 0 l).toArray.push { key:=.int .i64 x,val:=.bool true,born:=l.length }) (l.length+1)=setZ (l++[x]):=by
 unfold setZ
 rw[entZ_snoc,List.length_append,Nat.zero_add]
 simp
theorem same_int (x y:Int):Instr.sameNow (.int .i64) (.int .i64 x) (.int .i64 y)=some (decide (x=y)):=by
 show some (x == y)=_
 rw[show (x == y)=decide (x=y) by by_cases e:x=y<;>simp[e]]
theorem findZ_no:∀ (l:List Int) (k i:Nat) (x:Int),x∉l→Instr.findNow (.int .i64) (.int .i64 x) (entZ k l) i=some none
 | [],_,_,_,_=>rfl
 | y::l,k,i,x,h=>by
  have h1:x≠y:=fun e=>h (by rw[e];simp)
  have h2:=findZ_no l (k+1) (i+1) x (fun hx=>h (by simp[hx]))
  unfold entZ Instr.findNow
  simp[same_int,h1,h2]
theorem findZ_yes:∀ (l:List Int) (k i:Nat) (x:Int),x∈l→∃ j,Instr.findNow (.int .i64) (.int .i64 x) (entZ k l) i=some (some (j,.bool true))
 | [],_,_,_,h=>by simp at h
 | y :: l, k, i, x, h => by
  unfold entZ Instr.findNow
  by_cases h1:x=y
  ·subst h1
   exact⟨i,by simp[same_int]⟩
  ·obtain⟨j,h2⟩:=findZ_yes l (k+1) (i+1) x (by rcases List.mem_cons.1 h with h|h;exact absurd h h1;exact h)
   exact⟨j,by simp[same_int,h1,h2]⟩
theorem Ef.setAddI {K:Value→Ro→List Ent→Prop} {t kt et:TypeId} {x y z:Operand} {b:Nat} {l:List Int} {s:Int} {d d2:TD} (hT:TabOk P T) (ho:o.op=.mapUpdate t x y z) (hd:T.at t=some d) (hkd:d.k=.map kt et) (hd2:T.at kt=some d2) (hk2:d2.k=.int .i64)
  (hx:ev env x=some (true,.map (some b))) (hy:ev env y=some (true,.int .i64 s)) (hz:ev env z=some (true,.bool true)) (hf:s∉l)
  (hK:K undef R (.obj b (setZ (l++[s]))::E)):Ef P n env w0 R (.obj b (setZ l)::E) o K:=by
 intro a w hk hm
 have hb:=hm.getObj
 have hm1:=under_map hT hd hkd
 have hu2:=under_int hT hd2 hk2
 have hc:(Instr.checkKey false 10000 kt (.int .i64 s)).run P w=.ok () w:=MapKept.run_checkKey (k:=.int .i64 s) hu2 (by simp[MapKept.IsKey]) false 9999
 rw[← setZ_snoc] at hK
 have hf':Instr.findNow (.int .i64) (.int .i64 s) (entZ 0 l).toArray.toList 0=some none:=findZ_no l 0 0 s hf
 refine⟨undef,w.putObj b _,R,_,.inr ⟨?_,rfl⟩,hm.putObj _,hK⟩
 unfold execOp
 unfold setZ at hb
 simp[ho,hk.ev hx rfl,hk.ev hy rfl,hk.ev hz rfl,Instr.mapUpdate,run_underlying hm1,MapKept.run_getObj_map hb,hc,MapKept.run_findKey hu2 hf',MapKept.run_setObj_map _ hb,Result.andThen,World.putObj]
theorem Yl.setHasI {t kt et:TypeId} {x y:Operand} {b:Nat} {l:List Int} {s:Int} {d d2:TD} (hT:TabOk P T) (ho:o.op=.lookup t x y false) (hd:T.at t=some d) (hkd:d.k=.map kt et) (hd2:T.at kt=some d2) (hk2:d2.k=.int .i64) (hz:(P.info? et).bind (·.zero)=some (.bool false))
  (hx:ev env x=some (p,.map (some b))) (hy:ev env y=some (q,.int .i64 s)) (hpq:pc=true→(p && q)=true):Yl P n env w0 R (.obj b (setZ l)::E) o pc (.bool (decide (s∈l))):=by
 intro a w hk hm hpc
 obtain⟨h1,h2⟩:=and_both (hpq hpc)
 have hb:=hm.getObj
 have hm1:=under_map hT hd hkd
 have hu2:=under_int hT hd2 hk2
 have hc:∀ e,(Instr.checkKey e 10000 kt (.int .i64 s)).run P w=.ok () w:=fun e=>MapKept.run_checkKey (k:=.int .i64 s) hu2 (by simp[MapKept.IsKey]) e 9999
 have hz':(zeroValue et).run P w=.ok (.bool false) w:=by
  cases hi:P.info? et with
  | none=>rw[hi] at hz;cases hz
  | some inf =>
   rw[hi] at hz
   have:inf.zero=some (.bool false):=hz
   simp[zeroValue,typeInfo,hi,this]
 unfold setZ at hb
 unfold execOp
 by_cases hs:s∈l
 ·obtain⟨j,hf⟩:=findZ_yes l 0 0 s hs
  have hf':Instr.findNow (.int .i64) (.int .i64 s) (entZ 0 l).toArray.toList 0=some (some (j,.bool true)):=hf
  simp[ho,hk.ev hx h1,hk.ev hy h2,Instr.lookup,run_underlying hm1,MapKept.run_getObj_map hb,hc,MapKept.run_findKey hu2 hf',Result.andThen,hs]
 ·have hf':Instr.findNow (.int .i64) (.int .i64 s) (entZ 0 l).toArray.toList 0=some none:=findZ_no l 0 0 s hs
  simp[ho,hk.ev hx h1,hk.ev hy h2,Instr.lookup,run_underlying hm1,MapKept.run_getObj_map hb,hc,MapKept.run_findKey hu2 hf',hz',Result.andThen,hs]
end
end Go.Proofs.YtehaepbflkncdaaGreat.K
namespace Go.Proofs.YtehaepbflkncdaaGreat.K
open Go Go.RowKit
variable {P:Program} {T:Tab} {n:Nat} {env:Env} {w0:World} {R:Ro} {E:List Ent} {Q:Exit→Act→World→Prop}
variable {ops:List Oper} {o:Oper} {ES:List Ent} {R0:Ro} {fuel:Nat} {listed:Array Bool}
theorem WS.effN {i:Nat} (hi:ops.toArray[i]?=some o) (hg:o.guard=none) (hd:o.dst=none)
  (h:Ef P n env w0 R E o fun _ R' E'=>RLe R0 R'∧ES.Sublist E'∧WA P ops Q ES R0 w0 fuel (listed.setIfInBounds i true) n env R' E'):WS P ops Q ES R0 w0 fuel listed n env R E i:=by
 intro a w hk hm
 unfold wpOp
 rw[hi]
 simp only[Region.wanted,hg,if_true]
 left
 obtain⟨v,w',R',E',hrun,hm',hR',hsub',hn⟩:=h a w hk hm
 unfold Oper.wp
 rcases hrun with hrun|⟨hrun,rfl⟩
 ·rw[hrun];simp only[Oper.upon,hd];exact⟨hm'.sub hR' hsub',hn _ _ hk hm'⟩
 ·rw[hrun];simp only[Oper.upon,hd];exact⟨hm'.sub hR' hsub',hn _ _ hk hm'⟩
end Go.Proofs.YtehaepbflkncdaaGreat.K
namespace Go.Proofs.YtehaepbflkncdaaGreat.M
open Go Go.Proofs.YtehaepbflkncdaaGreat.K
end Go.Proofs.YtehaepbflkncdaaGreat.M
namespace Go.Proofs.YtehaepbflkncdaaGreat.K
open Go Go.RowKit
section
variable {P:Program} {T:Tab} {n:Nat} {env:Env} {w0:World} {R:Ro} {E:List Ent} {o:Oper} {K:Value→Ro→List Ent→Prop} {p q pc:Bool}
end
end Go.Proofs.YtehaepbflkncdaaGreat.K