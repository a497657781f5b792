/- A part of the proof. -/
import Derived.Test.YtholdcjomliiiaaGreatDoorW2P3
import Derived.Test.YtholdcjomliiiaaGreatDoorW2P1
import Derived.Test.YtholdcjomliiiaaGreatDoorW2P2
import Derived.Test.YtholdcjomliiiaaGreatDoorW2P1
import Derived.Test.YtholdcjomliiiaaGreatDoorW2P3
import Derived.Test.YtholdcjomliiiaaGreatDoorW2P3
import Derived.Test.YtholdcjomliiiaaGreatDoorW2P3
import Derived.Test.YtholdcjomliiiaaGreatDoorW2P1
import Derived.Test.YtholdcjomliiiaaGreatDoorW2T2
import Derived.KernelRfl
set_option linter.all false
noncomputable section
namespace Go.Proofs
open Go Go.RowKit Go.Vm
open Option renaming some→C
open Bool renaming true→t_,false→f_
variable {i k:Nat}{b:QBg}{n:Qc}{env l p:LI_}{o:Qd}{m:L_ QBg}{e:QL}{most O w x:Int}{c:QF}
def Gi {α:Type}{l:L_ α}(h:i<l.length):l.take (i+1)=l.take i++[l[i]]:=by rw[JY,Qv h];rfl
def Qel {l:QBg}{x:Int×Int}:EQ (l++[x])↔EQ l/\∀p∈l,p.1<x.1:=by
 unfold EQ;rw[Qg2];constructor
 ·rintro ⟨h,_,O⟩;exact⟨h,λp hp=>O p hp x (by simp)⟩
 rintro ⟨h,O⟩;exact⟨h,by simp,λp hp q hq=>by simp at hq;subst hq;exact O p hp⟩
def Qtk (h:EQ b)(O:i<b.length):∀p∈b.take i,p.1<b[i].1:=by
 have:=h.sublist (List.take_sublist (i+1) b);rw[Gi O]at this;exact(Qel.1 this).2
def Lx (h:b.length<=maxLen):Wx b=C (Uo (-1) b):=by
 unfold Wx;obtain⟨r,hr,h1⟩:=Cf (body:=λst:Int=>GV b st) b.length (λi s=>s=(i:Int)/\Rt (b.take i)) (λr=>r=bif Uo (-1) b then .inr ()else .inl ()) (λi s hi O=>by
  obtain⟨rfl,O⟩:=O;have hx:b[i]? = C b[i]:=Qv hi;show(∃s',GV b i=_/\_)\/∃r,GV b i=_/\_;unfold GV QdQ QdR;rw[Ql (by omega),Qr,QG,hx];simp only[Qa];have stop:¬Rt b->∃r:Unit⊕Unit,C (Sum.inr (Sum.inl ()))=(C (Sum.inr r):O_ (Int⊕(Unit⊕Unit)))/\r=bif Uo (-1) b then .inr ()else .inl ():=λhb=>by
   rw[<-Jo,Lz]at hb;rw[hb];exact⟨_,rfl,rfl⟩
  have hm:=Xc hi;by_cases c1:b[i].1<0
  ·rw[Ql c1];exact .inr (stop λhb=>by have:=hb.2 _ hm;omega)
  rw[Qn c1,Qe];by_cases c2:b[i].2<1
  ·rw[Ql c2];exact .inr (stop λhb=>by have:=hb.2 _ hm;omega)
  rw[Qn c2,Qe];by_cases c3:1048576<b[i].2
  ·rw[Ql c3];exact .inr (stop λhb=>by have:=hb.2 _ hm;omega)
  rw[Qn c3,Qe];have go:(∀p∈b.take i,p.1<b[i].1)->Rt (b.take (i+1)):=λhp=>by
   rw[Gi hi];refine⟨Qel.2 ⟨O.1,hp⟩,λp hp=>?_⟩;rcases YT.1 hp with hp|hp
   ·exact O.2 p hp
   simp at hp;subst hp;omega
  by_cases c4:0<i
  ·rw[Ql (by omega:(0:Int)<(i:Int)),Qr,Xb (n:=(i:Int)-1) (by unfold maxLen at h;omega),show(i:Int)-1=((i-1:Nat):Int) by omega,QG,Qv (show i-1<b.length by omega)];simp only[Qa];by_cases c5:b[i].1<=(b[i-1]'(by omega)).1
   ·rw[Ql c5];exact .inr (stop λhb=>by
     have:=QeD.1 hb.1 (i-1) i (by omega) hi (by omega);omega)
   rw[Qn c5];refine .inl ⟨_,rfl,Qo hi h,go λp hp=>?_⟩;obtain⟨j,hj,rfl⟩:=Ej.1 hp;rw[Kv]at hj;rw[Qct];by_cases hji:j=i-1
   ·subst hji;omega
   have:=QeD.1 O.1 j (i-1) (by simp;omega) (by simp;omega) (by omega);rw[Qct,Qct]at this;omega
  ·rw[Qn (by omega:¬(0:Int)<(i:Int)),Qe];refine .inl ⟨_,rfl,Qo hi h,go λp hp=>?_⟩;rw[show i=0 by omega]at hp;cases hp) (λs O=>by
  obtain⟨rfl,O⟩:=O;rw[Uf]at O;refine⟨_,?_,rfl⟩;show GV b (b.length:Int)=_;unfold GV;rw[Qn (by omega),Jo.2 O];rfl) 0 ⟨rfl,Rt.nil⟩
 rw[hr,h1];cases Uo (-1) b<;>rfl
def Qj3 (h:b.length<=maxLen)(hb:Rt b)(m:Int):FE b m=C (QJ b m):=by
 unfold FE;rw[Lx h,Jo.2 hb,Qa];obtain⟨r,hr,h1⟩:=Cf (body:=λst:Int=>GW b t_ m st) b.length (λi s=>s=(i:Int)/\∀p∈b.take i,p.1≠m) (λr=>r=.inl (QJ b m)\/(r=.inr ()/\QJ b m=0)) (λi s hi O=>by
  obtain⟨rfl,O⟩:=O;have hx:b[i]? = C b[i]:=Qv hi;show(∃s',GW b t_ m i=_/\_)\/∃r,GW b t_ m i=_/\_;unfold GW;rw[Ql (by omega),QaQ,Qr,QG,hx];simp only[Qa];by_cases e:b[i].1=m
  ·rw[show(b[i].1==m)=t_ by simpa using e];refine .inr ⟨_,rfl,.inl ?_⟩;rw[<-e,Eh hb.1.nd (Xc hi)]
  ·rw[show(b[i].1==m)=f_ by simpa using e];refine .inl ⟨_,rfl,Qo hi h,λp hp=>?_⟩;rw[Gi hi]at hp;rcases YT.1 hp with hp|hp
   ·exact O p hp
   simp at hp;subst hp;exact e) (λs O=>by
  obtain⟨rfl,O⟩:=O;rw[Uf]at O;refine⟨.inr (),?_,.inr ⟨rfl,?_⟩⟩
  ·show GW b t_ m (b.length:Int)=_;unfold GW;rw[Qn (by omega)];rfl
  unfold QJ;rw[Rm.2 O];rfl) 0 ⟨rfl,λp hp=>by cases hp⟩
 rw[hr];rcases h1 with rfl|⟨rfl,e⟩
 ·rfl
 rw[e];rfl
def Qtl (h:b.length<=4294967295)(hb:Rt b){m n:Int}(hm:0<=m)(hn:0<=n/\n<=1048576):∃r,OZ b m n=C r/\Rt r/\(∀k,QJ r k=if k=m then n else QJ b k)/\r.length<=b.length+1:=by
 have hl:b.length<=maxLen:=by unfold maxLen;omega
 unfold OZ;obtain⟨⟨dn,out⟩,hr,h1,h2,h3,h4⟩:=Cf (body:=λst:Bool×Int×QBg=>AN b m n st.1 st.2.1 st.2.2) b.length
  (λi s=>s.2.1=(i:Int)/\(s.1=t_↔∃p∈b.take i,m<=p.1)/\EQ s.2.2/\(∀p,p∈s.2.2↔(p.1≠m/\p∈b.take i)\/(s.1=t_/\0<n/\p=(m,n)))/\s.2.2.length<=i+(bif s.1 then 1 else 0))
  (λr=>(r.1=t_↔∃p∈b,m<=p.1)/\EQ r.2/\(∀p,p∈r.2↔(p.1≠m/\p∈b)\/(r.1=t_/\0<n/\p=(m,n)))/\r.2.length<=b.length+(bif r.1 then 1 else 0)) (λi s hi hI=>by
   obtain⟨d,a,out⟩:=s;obtain⟨h1,h2,h3,h4,h5⟩:=hI;replace h1:a=(i:Int):=h1;subst h1;replace h2:d=t_↔∃p∈b.take i,m<=p.1:=h2;replace h3:EQ out:=h3;replace h4:∀p,p∈out↔(p.1≠m/\p∈b.take i)\/(d=t_/\0<n/\p=(m,n)):=h4;replace h5:out.length<=i+(bif d then 1 else 0):=h5;have hx:b[i]? = C b[i]:=Qv hi;have hup:=Qtk hb.1 hi;left;show ∃s',AN b m n d i out=_/\_;unfold AN Qe2 Qe3 Ok;rw[Ql (by omega),Qr];have own:∀(d':Bool) (O:QBg),(d'=t_↔∃p∈b.take (i+1),m<=p.1)->EQ O->(∀p,p∈O↔(p.1≠m/\p∈b.take i)\/(d'=t_/\0<n/\p=(m,n)))->O.length<=i+(bif d' then 1 else 0)->(∀p∈O,b[i].1≠m->p.1<b[i].1)->
     ∃s',Hm b i m d' O=C (.inl s')/\(s'.2.1=((i+1:Nat):Int)/\(s'.1=t_↔∃p∈b.take (i+1),m<=p.1)/\EQ s'.2.2/\(∀p,p∈s'.2.2↔(p.1≠m/\p∈b.take (i+1))\/(s'.1=t_/\0<n/\p=(m,n)))/\s'.2.2.length<=i+1+(bif s'.1 then 1 else 0)):=λd' O g1 g2 g3 g4 g5=>by
    unfold Hm Oj;have hdl:(bif d' then 1 else 0:Nat)<=1:=by cases d'<;>decide
    rw[QG,hx];simp only[Qa];by_cases e:b[i].1=m
    ·rw[show(b[i].1 != m)=f_ by simpa using e];refine⟨_,rfl,Qo hi hl,g1,g2,λp=>?_,by show O.length<=_;omega⟩;show p∈O↔_;rw[g3,Gi hi,YT,LA];constructor
     ·rintro (⟨x1,x2⟩|x)
      ·exact .inl ⟨x1,.inl x2⟩
      exact .inr x
     rintro (⟨x1,x2|rfl⟩|x)
     ·exact .inl ⟨x1,x2⟩
     ·exact absurd e x1
     exact .inr x
    rw[show(b[i].1 != m)=t_ by simpa using e,Qr,Yv (by simp;omega)];refine⟨_,rfl,Qo hi hl,g1,Qel.2 ⟨g2,λp hp=>g5 p hp e⟩,λp=>?_,by show(O++[b[i]]).length<=_;rw[YZ];simp;omega⟩;show p∈O++[b[i]]↔_;rw[YT,LA,g3,Gi hi,YT,LA];constructor
    ·rintro ((⟨x1,x2⟩|x)|rfl)
     ·exact .inl ⟨x1,.inl x2⟩
     ·exact .inr x
     exact .inl ⟨e,.inr rfl⟩
    rintro (⟨x1,x2|x2⟩|x)
    ·exact .inl (.inl ⟨x1,x2⟩)
    ·exact .inr x2
    exact .inl (.inr x)
   have grow:∀p:Int×Int,p∈b.take (i+1)↔p∈b.take i\/p=b[i]:=λp=>by rw[Gi hi,YT,LA]
   cases d with
   |true=>
    obtain⟨q,hq,hq2⟩:=h2.1 rfl;rw[show(!t_)=f_ from rfl,Qe,Qa,Qe];exact own t_ out ⟨λ_=>⟨q,(grow q).2 (.inl hq),hq2⟩,λ_=>rfl⟩ h3 h4 h5 λp hp _=>by
     rcases(h4 p).1 hp with⟨_,x⟩|⟨_,_,rfl⟩
     ·exact hup p x
     have:=hup q hq;show m<_;omega
   |false=>
    have low:∀p∈b.take i,p.1<m:=λp hp=>by
     apply Classical.byContradiction;intro hc;have:=h2.2 ⟨p,hp,by omega⟩;cases this
    rw[show(!f_)=t_ from rfl,Qr,QG,hx];simp only[Qa];by_cases e:m<=b[i].1
    ·rw[Ql e,Qr];have g1:(t_=t_↔∃p∈b.take (i+1),m<=p.1):=⟨λ_=>⟨b[i],(grow _).2 (.inr rfl),e⟩,λ_=>rfl⟩;by_cases hn0:0<n
     ·rw[Ql hn0,Qr,Yv (by simp only[Qe]at h5;simp;omega),Qa];refine own t_ (out++[(m,n)]) g1 (Qel.2 ⟨h3,λp hp=>?_⟩) (λp=>?_) (by simp only[Qe]at h5;simp;omega) λp hp he=>?_
      ·rcases(h4 p).1 hp with⟨_,x⟩|⟨x,_⟩
       ·exact low p x
       cases x
      ·rw[YT,LA,h4];constructor
       ·rintro ((x|⟨x,_⟩)|rfl)
        ·exact .inl x
        ·cases x
        exact .inr ⟨rfl,hn0,rfl⟩
       rintro (x|⟨_,_,x⟩)
       ·exact .inl (.inl x)
       exact .inr x
      rcases YT.1 hp with hp|hp
      ·rcases(h4 p).1 hp with⟨_,x⟩|⟨x,_⟩
       ·exact hup p x
       cases x
      simp at hp;subst hp;show m<_;omega
     rw[Qn hn0,Qe];refine own t_ out g1 h3 (λp=>?_) (by simp only[Qe]at h5;simp;omega) λp hp he=>?_
     ·rw[h4];constructor
      ·rintro (x|⟨x,_⟩)
       ·exact .inl x
       cases x
      rintro (x|⟨_,x,_⟩)
      ·exact .inl x
      exact absurd x hn0
     rcases(h4 p).1 hp with⟨_,x⟩|⟨x,_⟩
     ·exact hup p x
     cases x
    rw[Qn e,Qe];refine own f_ out ⟨(λx=>by cases x),λ⟨p,hp,hp2⟩=>?_⟩ h3 h4 h5 λp hp he=>?_
    ·rcases(grow p).1 hp with x|rfl
     ·have:=low p x;omega
     exact absurd hp2 e
    rcases(h4 p).1 hp with⟨_,x⟩|⟨x,_⟩
    ·exact hup p x
    cases x) (λs hI=>by
   obtain⟨d,a,out⟩:=s;obtain⟨h1,h2,h3,h4,h5⟩:=hI;replace h1:a=(b.length:Int):=h1;subst h1;rw[Uf]at h2 h4;refine⟨(d,out),?_,h2,h3,h4,h5⟩;show AN b m n d b.length out=_;unfold AN;rw[Qn (by omega)];rfl) (f_,0,[]) ⟨rfl,by simp,by simp[EQ],by simp,by simp⟩
 rw[hr,Qa];show ∃r,Zm n m dn out=C r/\_;unfold Zm Ol;have fin:∀r:QBg,EQ r->(∀p,p∈r↔(p.1≠m/\p∈b)\/(0<n/\p=(m,n)))->Rt r/\∀k,QJ r k=if k=m then n else QJ b k:=λr hA hmem=>by
  refine⟨⟨hA,λp hp=>?_⟩,λk=>?_⟩
  ·rcases(hmem p).1 hp with⟨_,x⟩|⟨x,rfl⟩
   ·exact hb.2 p x
   exact⟨hm,by show 1<=n;omega,hn.2⟩
  by_cases e:k=m
  ·subst e;rw[if_pos rfl];by_cases hn0:0<n
   ·exact Eh hA.nd ((hmem (k,n)).2 (.inr ⟨hn0,rfl⟩))
   unfold QJ;rw[Rm.2 λp hp=>?_]
   ·show(0:Int)=n;omega
   rcases(hmem p).1 hp with⟨x,_⟩|⟨x,_⟩
   ·exact x
   exact absurd x hn0
  rw[if_neg e];unfold QJ;congr 1;cases hq:Xg b k with
  |some v=>exact(KE hA.nd).2 ((hmem (k,v)).2 (.inl ⟨e,(KE hb.1.nd).1 hq⟩))|none=>
   refine Rm.2 λp hp=>?_;rcases(hmem p).1 hp with⟨_,x⟩|⟨_,rfl⟩
   ·exact Rm.1 hq p x
   exact λx=>e x.symm
 cases dn with
 |true=>
  obtain⟨f1,f2⟩:=fin out h2 λp=>by rw[h3];simp
  exact⟨out,rfl,f1,f2,by simpa using h4⟩
 |false=>
  have low:∀p∈b,p.1<m:=λp hp=>by
   apply Classical.byContradiction;intro hc;have:=h1.2 ⟨p,hp,by omega⟩;cases this
  by_cases hn0:0<n
  ·rw[Ql hn0];simp only[Qe,My]at h4;obtain⟨f1,f2⟩:=fin (out++[(m,n)]) (Qel.2 ⟨h2,λp hp=>by
    rcases(h3 p).1 hp with⟨_,x⟩|⟨x,_⟩
    ·exact low p x
    ·cases x⟩) λp=>by
    rw[YT,LA,h3];constructor
    ·rintro ((x|⟨x,_⟩)|rfl)
     ·exact .inl x
     ·cases x
     exact .inr ⟨hn0,rfl⟩
    rintro (x|⟨_,x⟩)
    ·exact .inl (.inl x)
    exact .inr x
   refine⟨out++[(m,n)],?_,f1,f2,by simp;omega⟩;rw[show(!f_&&t_)=t_ from rfl,Qr,Yv (by simp;omega)];rfl
  rw[Qn hn0];obtain⟨f1,f2⟩:=fin out h2 λp=>by
   rw[h3];constructor
   ·rintro (x|⟨x,_⟩)
    ·exact .inl x
    cases x
   rintro (x|⟨x,_⟩)
   ·exact .inl x
   exact absurd x hn0
  exact⟨out,rfl,f1,f2,by simp only[Qe,My]at h4;omega⟩
def Qtm (hb:EQ b)(h:i<b.length)(k:Int):QJ (b.take (i+1)) k=if k=b[i].1 then b[i].2 else QJ (b.take i) k:=by
 have O:EQ (b.take (i+1)):=hb.sublist (List.take_sublist _ _);by_cases e:k=b[i].1
 ·subst e;rw[if_pos rfl];exact Eh O.nd (by rw[Gi h];exact Qg0 _ Yc)
 rw[if_neg e];unfold QJ;congr 1;have h0:EQ (b.take i):=hb.sublist (List.take_sublist _ _);cases hq:Xg (b.take i) k with
 |some v=>exact(KE O.nd).2 (by rw[Gi h];exact SB _ ((KE h0.nd).1 hq))|none=>
  refine Rm.2 λp hp=>?_;rw[Gi h]at hp;rcases YT.1 hp with hp|hp
  ·exact Rm.1 hq p hp
  simp at hp;subst hp;exact λx=>e x.symm
def Qzv (h:EQ b)(O:i<b.length):QJ (b.take i) b[i].1=0:=by
 unfold QJ;rw[Rm.2 λp hp=>by have:=Qtk h O p hp;omega];rfl
def QnB {a:QBg}(h:a.length+b.length<=4294967290):BW a b=JV a b:=by
 unfold BW QgD QgE;have ha:a.length<=maxLen:=by unfold maxLen;omega
 have hb:b.length<=maxLen:=by unfold maxLen;omega
 rw[Lx ha,Lx hb,Qa];rcases Au a b (by omega)with⟨h1,h2⟩|⟨h1,h2,⟨k,h3⟩,h4⟩|⟨h1,h2,r,h3,h4,h5,h6⟩
 ·rw[h2,<-Jo,<-Jo]at *;cases ra:Uo (-1) a with
  |false=>rfl|true=>
   cases rb:Uo (-1) b with|false=>rfl|true=>exact absurd ⟨ra,rb⟩ h1
 all_goals
  rw[Jo.2 h1,Jo.2 h2];simp only[Jq,Qe,Qa,FR,NG,Gp];rw[Yv (by omega),Qa];obtain⟨q,hq,hp⟩:=Cf (body:=λst:Int×QBg=>UC b st.1 st.2) b.length
   (λi s=>s.1=(i:Int)/\Rt s.2/\(∀k,QJ s.2 k=QJ a k+QJ (b.take i) k)/\s.2.length<=a.length+i)
   (λq=>(q=.inl ()/\∃k,1048576<QJ a k+QJ b k)\/∃r,q=.inr r/\Rt r/\∀k,QJ r k=QJ a k+QJ b k) (λi s hi hI=>by
    obtain⟨x,out⟩:=s;obtain⟨O,g2,g3,g4⟩:=hI;replace O:x=(i:Int):=O;subst O;replace g2:Rt out:=g2;replace g3:∀k,QJ out k=QJ a k+QJ (b.take i) k:=g3;replace g4:out.length<=a.length+i:=g4;have hx:b[i]? = C b[i]:=Qv hi;have hbi:=‹Rt b›.2 _ (Xc hi);show(∃s',UC b i out=_/\_)\/∃r,UC b i out=_/\_;unfold UC;rw[Ql (by omega),Qr,QG,hx];simp only[Qa];have hc:=‹Rt a›.cnt b[i].1;rw[Qj3 (by unfold maxLen;omega) g2,Qa,g3,Qzv ‹Rt b›.1 hi,Int.add_zero,Xb (by omega)];by_cases e:1048576<QJ a b[i].1+b[i].2
    ·rw[Ql e];refine .inr ⟨_,rfl,.inl ⟨rfl,b[i].1,?_⟩⟩;rw[Eh ‹Rt b›.1.nd (Xc hi)];exact e
    ·rw[Qn e,Qe];obtain⟨r,r1,r2,r3,r4⟩:=Qtl (b:=out) (by omega) g2 (m:=b[i].1) (n:=QJ a b[i].1+b[i].2) (by omega) (by omega);rw[r1,Qa];refine .inl ⟨_,rfl,Qo hi hb,r2,λk=>?_,by show r.length<=_;omega⟩;show QJ r k=_;rw[r3,Qtm ‹Rt b›.1 hi,g3];by_cases ek:k=b[i].1
     ·subst ek;rw[if_pos rfl,if_pos rfl]
     rw[if_neg ek,if_neg ek]) (λs hI=>by
    obtain⟨x,out⟩:=s;obtain⟨O,g2,g3,g4⟩:=hI;replace O:x=(b.length:Int):=O;subst O;rw[Uf]at g3;refine⟨.inr out,?_,.inr ⟨out,rfl,g2,g3⟩⟩;show UC b b.length out=_;unfold UC;rw[Qn (by omega)];rfl) (0,a) ⟨rfl,by assumption,λk=>by simp[QJ,Xg],by simp⟩
  rw[hq]
 ·rcases hp with⟨rfl,_⟩|⟨r,rfl,r1,r2⟩
  ·rw[h4];rfl
  have:=r1.cnt k;rw[r2]at this;omega
 rcases hp with⟨rfl,k,hk⟩|⟨r',rfl,r1,r2⟩
 ·have:=h4.cnt k;rw[h5]at this;omega
 have:r'=r:=rt_ext r1 h4 λk=>by rw[r2,h5]
 subst this;rw[h3];rfl
def Qbg {a:QBg}(ha:a.length<=maxLen)(hb:b.length<=maxLen):UK a b=OQ a b:=by
 unfold UK Qcg Qch;rw[Lx ha,Lx hb,Qa];obtain⟨r,h1,h⟩:=AU a b ha hb;rw[h1];cases ra:Uo (-1) a with
 |false=>
  have:r=f_:=by
   cases r with|false=>rfl|true=>have:=Jo.2 (h.1 rfl).1;rw[ra]at this;cases this
  rw[this];rfl
 |true=>
  cases rb:Uo (-1) b with
  |false=>
   have:r=f_:=by
    cases r with|false=>rfl|true=>have:=Jo.2 (h.1 rfl).2.1;rw[rb]at this;cases this
   rw[this];rfl
  |true=>
   have h3:=Jo.1 ra;have O:=Jo.1 rb;simp only[Jq,Qe,Qa];rw[TS (body:=λst:Int=>EV a b st) (l:=a) (λi=>(i:Int)) (λ_ x=>decide (QJ b x.1<x.2)) (.inl ()) (.inr ()) (λi x hi hx=>by
    show EV a b i=_;unfold EV;rw[Ql (by omega),Qr,QG,hx];simp only[Qa];rw[Qj3 hb O,Qa,Qo hi ha];cases decide (QJ b x.1<x.2)<;>rfl) (by
    show EV a b a.length=_;unfold EV;rw[Qn (by omega),Qe]) (s0:=0) rfl,Qa]
   have e:∀(l:QBg) (k:Nat),HI (λ_ x=>decide (QJ b x.1<x.2)) k l=l.any λp=>decide (QJ b p.1<p.2):=λl=>by
    induction l with|nil=>intro k;rfl|cons x l ih=>intro k;rw[HI,ih,List.any_cons]
   rw[e];have aw:=QhO h3 O;cases hq:a.any λp=>decide (QJ b p.1<p.2)with
   |false=>rw[h.2 ⟨h3,O,aw.1 hq⟩];rfl|true=>
    have:r=f_:=by
     cases r with|false=>rfl|true=>rw[aw.2 (h.1 rfl).2.2]at hq;cases hq
    rw[this];rfl
def QbF {σ ρ:Type}{b1 b2:σ->O_ (σ⊕ρ)}(n:Nat)(I:Nat->σ->Prop)(he:∀i s,I i s->b1 s=b2 s)(hn:∀i s O,I i s->b2 s=C (.inl O)->i<n/\I (i+1) O):∀s0,I 0 s0->Qq b1 s0=Qq b2 s0:=by
 have key:∀(k i:Nat) s,n<=i+k->I i s->Qq b1 s=Qq b2 s:=by
  intro k
  induction k with
  |zero=>
   intro i s hk hI;rw[Yl,Yl (body:=b2),he i s hI];cases hb:b2 s with
   |none=>rfl|some o=>
    cases o with|inr r=>rfl|inl O=>have:=(hn i s O hI hb).1;omega
  |succ k ih=>
   intro i s hk hI;rw[Yl,Yl (body:=b2),he i s hI];cases hb:b2 s with
   |none=>rfl|some o=>
    cases o with|inr r=>rfl|inl O=>exact ih (i+1) O (by omega) (hn i s O hI hb).2
 exact λs0 h=>key n 0 s0 (by omega) h
structure RN (n:Qc):Prop where
 c:∀c∈n.Colours,IC c
 g:∀t∈n.Tasks,RE t.Guard
 i:∀t∈n.Tasks,∀a∈t.Ins,RE a.Expr
 o:∀t∈n.Tasks,∀a∈t.Outs,RE a.Expr
def QnC (h:QT n)(hr:RN n)(task:Int)(O:LI_):∃r,DA n task O=C r/\Nh n task O=C r/\(r.2=0->(∀x∈r.1,XW x)/\∃e,idx n.Tasks task=C e/\e∈n.Tasks):=by
 unfold DA Nh;cases hq:((decide (task<0))||(decide ((n.Tasks.length:Int)<=task)))with
 |true=>exact⟨_,rfl,rfl,λh=>by cases h⟩
 |false=>
  simp only[Ku,QU]at hq;have he:idx n.Tasks task=C (n.Tasks[task.toNat]'(by omega)):=Sv (by omega) (by omega);have hm:(n.Tasks[task.toNat]'(by omega))∈n.Tasks:=Xc _;rw[Qe,Qe,he,Qa,Qa];generalize (n.Tasks[task.toNat]'(by omega))=e at he hm;have hv:=(h.tk e hm).1;by_cases hl:(O.length:Int)=(e.Vars.length:Int)
  ·rw[show((O.length:Int) != (e.Vars.length:Int))=f_ by simpa using hl,Qe,Qe,BO (by simp;omega),Qa];have mx:(16:Nat)<=maxLen:=by decide
   obtain⟨r,q,e1,e2,e3⟩:=QhY (b1:=λst:Int×LI_=>GF e O n st.1 st.2) (b2:=λst:Int×LI_=>La e O n st.1 st.2) e.Vars.length
    (λi s t=>s=((i:Int),t.2++List.replicate (e.Vars.length-i) 0)/\t.1=(i:Int)/\t.2.length=i/\∀x∈t.2,XW x) (λr q=>r=q/\∀l,r=.inr l->∀x∈l,XW x) (λi s t hi hI=>by
     obtain⟨a,out⟩:=t;obtain⟨rfl,h2,h3,h4⟩:=hI;replace h2:a=(i:Int):=h2;subst h2;replace h3:out.length=i:=h3;replace h4:∀x∈out,XW x:=h4;show(i<e.Vars.length/\∃s' t',GF e O n i (out++List.replicate (e.Vars.length-i) 0)=_/\La e O n i out=_/\_)\/∃r q,GF e O n i (out++List.replicate (e.Vars.length-i) 0)=_/\La e O n i out=_/\_;unfold GF La;by_cases hlt:i<e.Vars.length
     ·rw[Ql (by omega:(i:Int)<(e.Vars.length:Int)),Qr,Qr,QG,Qv hlt,QG,Qv (show i<O.length by omega)];simp only[Qa];obtain⟨y,y1,y2,y3⟩:=QtY h.k.1 hr.c (e.Vars[i]).Colour (O[i]'(by omega));have hrep:List.replicate (e.Vars.length-i) (0:Int)=0::List.replicate (e.Vars.length-(i+1)) 0:=by
       rw[show e.Vars.length-i=(e.Vars.length-(i+1))+1 by omega];rfl
      rw[y1,y2,Qa,Qa];cases y.2 with
      |false=>exact .inr ⟨_,_,rfl,rfl,rfl,λl h=>by cases h⟩
      |true=>
       left;simp only[Jq,Qe];rw[QG,hrep,Kc (by omega),h3,Nat.sub_self,Yv (by simp;omega)];refine⟨hlt,_,_,rfl,rfl,?_,Qo hlt (by omega),by simp;omega,λx hx=>?_⟩
       ·rw[Qo hlt (by omega),XM,List.set_append_right _ _ (by omega),h3,Nat.sub_self,Kh];rfl
       rcases YT.1 hx with hx|hx
       ·exact h4 x hx
       simp at hx;subst hx;exact y3
     right;rw[Qn (by omega:¬(i:Int)<(e.Vars.length:Int))];have:i=e.Vars.length:=by omega
     subst this;refine⟨_,_,rfl,rfl,?_,λl hl=>?_⟩
     ·simp
     cases hl;simpa using h4) (0,List.replicate (e.Vars.length:Int).toNat 0) (0,[]) ⟨by simp,rfl,rfl,λx h=>by cases h⟩
   obtain⟨e3,e4⟩:=e3;subst e3;rw[e1,e2];rcases r with r|r
   ·exact⟨_,rfl,rfl,λh=>by cases h⟩
   exact⟨_,rfl,rfl,λ_=>⟨e4 r rfl,e,rfl,hm⟩⟩
  rw[show((O.length:Int) != (e.Vars.length:Int))=t_ by simpa using hl];exact⟨_,rfl,rfl,λh=>by cases h⟩
def Qgg (h:QT n)(hr:RN n){l:L_ Jy}(hl:QV MT l)(hre:∀a∈l,RE a.Expr){O:LI_}(hw:O.length<=1000)(hv:∀x∈env,XW x):UJ n l O env=YC n l O env:=by
 unfold UJ YC;congr 1;funext _;have mx:(1000:Nat)<=maxLen:=by decide
 have e:Qq (λst:Int×L_ QBg=>Ib O l env n st.1 st.2) (0,(List.replicate (n.Places.length:Int).toNat (([]:QBg):QBg)))=Qq (λst:Int×L_ QBg=>Df O l env n st.1 st.2) (0,(List.replicate (n.Places.length:Int).toNat (([]:QBg):QBg))):=by
  refine QbF O.length (λi s=>s.1=(i:Int)/\i<=O.length/\∀b∈s.2,b.length<=i) (λi s hI=>?_) (λi s s' hI hs=>?_) _ ⟨rfl,by omega,λb hb=>by rw[QaS hb];simp⟩
  ·obtain⟨a,m⟩:=s;obtain⟨h1,h2,h3⟩:=hI;replace h1:a=(i:Int):=h1;subst h1;replace h3:∀b∈m,b.length<=i:=h3;show Ib O l env n i m=Df O l env n i m;unfold Ib Df;cases decide ((i:Int)<(O.length:Int))with
   |false=>rfl|true=>
    rw[Qr,Qr];cases idx O (i:Int)with
    |none=>rfl|some k=>
     simp only[Qa];cases ((decide (k<0))||(decide ((l.length:Int)<=k)))with
     |true=>rfl|false=>
      rw[Qe,Qe];cases hk:idx l k with
      |none=>rfl|some a=>
       simp only[Qa];have ha:a∈l:=XB (Yz hk).2;obtain⟨x,x1,x2,x3⟩:=Qrl (hl.2 a ha).2 (hre a ha) hv;rw[x1,x2,Qa,Qa];cases (x.2 != 0)with
       |true=>rfl|false=>
        rw[Qe,Qe];cases ((decide (a.Place<0))||(decide ((n.Places.length:Int)<=a.Place)))with
        |true=>rfl|false=>
         rw[Qe,Qe];cases idx n.Places a.Place with
         |none=>rfl|some p=>
          simp only[Qa];obtain⟨y,y1,y2⟩:=QtZ h.k.1 hr.c p.Colour x.1 x3;rw[y1,y2,Qa,Qa];cases hy:y.2 with
          |false=>rfl|true=>
           simp only[Jq,Qe];have y0:=WG (QsY n.Colours p.Colour x.1 h.k.1) y1 hy;cases hb:idx m a.Place with
           |none=>rfl|some b=>
            simp only[Qa];have hbl:=h3 b (XB (Yz hb).2);rw[ZE,Ql y0,Qr,Qa,QnB (by simp;omega)]
  obtain⟨a,m⟩:=s;obtain⟨h1,h2,h3⟩:=hI;replace h1:a=(i:Int):=h1;subst h1;replace h3:∀b∈m,b.length<=i:=h3;replace hs:Df O l env n i m=C (.inl s'):=hs;unfold Df at hs;rcases Xy hs with⟨c,hs⟩|⟨_,hs⟩
  ·have hlt:i<O.length:=by simpa using c
   obtain⟨k,_,hs⟩:=QI hs;rcases Xy hs with⟨_,hs⟩|⟨_,hs⟩
   ·cases hs
   obtain⟨a,_,hs⟩:=QI hs;obtain⟨x,_,hs⟩:=QI hs;rcases Xy hs with⟨_,hs⟩|⟨_,hs⟩
   ·cases hs
   obtain⟨a',_,hs⟩:=QI hs;rcases Xy hs with⟨_,hs⟩|⟨_,hs⟩
   ·cases hs
   obtain⟨p,_,hs⟩:=QI hs;obtain⟨y,_,hs⟩:=QI hs;rcases Xy hs with⟨_,hs⟩|⟨_,hs⟩
   ·cases hs
   obtain⟨b,hb,hs⟩:=QI hs;obtain⟨o,ho,hs⟩:=QI hs;obtain⟨u,hu,hs⟩:=QI hs;obtain⟨_,_,hs⟩:=QI hs;rcases Xy hs with⟨_,hs⟩|⟨cu,hs⟩
   ·cases hs
   cases hs;refine⟨hlt,Qo hlt (by omega),by omega,λc hc=>?_⟩;have hbl:=h3 b (XB (Yz hb).2);rw[ZE]at ho;have hol:o.length<=1:=by
    rw[<-Option.some.inj ho];cases decide (0<=y.1)<;>simp
   rcases QaG hc with rfl|hc
   ·rcases Au b o (by omega)with⟨_,e⟩|⟨_,_,_,e⟩|⟨_,_,r,e,_,_,e2⟩
    ·rw[hu]at e;cases e;simp
    ·rw[hu]at e;cases e;simp
    rw[hu]at e;cases e;show r.length<=_;omega
   have:=h3 c hc;omega
  cases hs
 rw[e];all_goals rfl
def QcQ (h:QT n)(O:RN n)(ho:Xv n o):Be n o=Yr n o:=by
 unfold Be Yr;obtain⟨r,e1,e2,e3⟩:=QnC h O o.Task o.Vars;rw[e1,e2,Qa,Qa];cases hz:(r.2 != 0)with
 |true=>rfl|false=>
  obtain⟨hv,e,he,hm⟩:=e3 (by simpa using hz);rw[Qe,Qe,he,Qa,Qa,Qgg h O (h.k.2.2.1.2 e hm).2.2.2.2.2.1 (O.i e hm) (by have:=ho.2.1;omega) hv]
def QpA (h:QT n)(O:RN n)(ho:Xv n o):Bf n o=(DA n o.Task o.Vars).bind λx=>bif (x.2 != 0)then C ([],x.2)else(idx n.Tasks o.Task).bind λe=>(YC n e.Outs o.Outs x.1).bind λy=>C (y.1,y.2):=by
 unfold Bf;obtain⟨r,e1,e2,e3⟩:=QnC h O o.Task o.Vars;rw[e1,e2,Qa,Qa];cases hz:(r.2 != 0)with
 |true=>rfl|false=>
  obtain⟨hv,e,he,hm⟩:=e3 (by simpa using hz);rw[Qe,Qe,he,Qa,Qa,Qgg h O (h.k.2.2.1.2 e hm).2.2.2.2.2.2.1 (O.o e hm) (by have:=ho.2.2;omega) hv]
def Qlz {a:L_ QBg}(h:QV (QV λ_=>True) a)(O:QV (QV λ_=>True) m):Le a m=GH a m:=by
 unfold Le GH XK;cases ((a.length:Int) != (m.length:Int))with
 |true=>rfl|false=>
  rw[Qe,Qe];have e:(λst=>RX a m st)=λst=>QS a m st:=by
   funext i;unfold RX QS;cases decide (i<(a.length:Int))with
   |false=>rfl|true=>
    rw[Qr,Qr];cases hx:idx a i with
    |none=>rfl|some x=>
     cases hy:idx m i with
     |none=>rfl|some y=>
      simp only[Qa];rw[Qbg (h.2 x (XB (Yz hx).2)).1 (O.2 y (XB (Yz hy).2)).1]
  rw[e];cases Qq (λst=>QS a m st) 0 with|none=>rfl|some q=>cases q<;>rfl
def Quo (a b:LI_)(h:a.length<=maxLen):Di a b=C (decide (a=b)):=by
 rw[<-Qpq a b h];rfl
def QpB (O h:Int)(row:LI_):Ld O h row=C (decide (row∈Uc O h)):=by
 unfold Ld;obtain⟨e,hx⟩:=Sx O h;rw[Qek,e,Qa];generalize Uc O h=x at hx;have mx:(16:Nat)<=maxLen:=by decide
 have hl:=hx.1;rw[TS (body:=λst:Int=>EU x row st) (l:=x) (λi=>(i:Int)) (λ_ y=>decide (y=row)) (.inl ()) (.inr ()) (λi y hi hy=>by
  show EU x row i=_;unfold EU;rw[Ql (by omega),Qr,QG,hy,Qa,Quo _ _ (by have:=hx.2 y (XB hy);omega),Qa,Qo hi (by omega)];cases decide (y=row)<;>rfl) (by
  show EU x row x.length=_;unfold EU;rw[Qn (by omega),Qe]) (s0:=0) rfl,Qa]
 by_cases hm:row∈x
 ·obtain⟨i,hi⟩:=NH.1 hm;have:HI (λ_ y=>decide (y=row)) 0 x=t_:=Qnd.2 ⟨i,row,hi,by simp⟩;rw[this,Ql hm];rfl
 have:HI (λ_ y=>decide (y=row)) 0 x=f_:=QcK.2 λi y hy=>Qn λe=>hm (e▸XB hy);rw[this,Qn hm];rfl
def QAw (hl:l.length<=maxLen)(k:Int):QcH l k=C (decide (k∈l)):=by
 unfold QcH;rw[TS (body:=λst:Int=>FH l k st) (l:=l) (λi=>(i:Int)) (λ_ y=>y==k) (.inl ()) (.inr ()) (λi y O hy=>by
  show FH l k i=_;unfold FH;rw[Ql (by omega),Qr,QG,hy,Qa,Qo O hl];cases (y==k)<;>rfl) (by
  show FH l k l.length=_;unfold FH;rw[Qn (by omega),Qe]) (s0:=0) rfl,Qa]
 by_cases h:k∈l
 ·obtain⟨i,O⟩:=NH.1 h;have:HI (λ_ y=>y==k) 0 l=t_:=Qnd.2 ⟨i,k,O,by simp⟩;rw[this,Ql h];rfl
 have:HI (λ_ y=>y==k) 0 l=f_:=QcK.2 λi y hy=>by
  have:=XB hy;simp only[beq_eq_false_iff_ne];intro e;exact h (e▸this)
 rw[this,Qn h];rfl
def QAx (O:l.length<=maxLen)(k:Int):Jb l k=C (decide (k∈l)):=by
 unfold Jb Gv;rw[QwV (l:=l) (λy=>k==y) (λi x h hx=>by
  show JB l k i=_;unfold JB;rw[Ql (by omega),Qr,QG,hx,Qa,Qo h O];cases (k==x)<;>rfl) (by
  show JB l k l.length=_;unfold JB;rw[Qn (by omega),Qe])]
 have e:decide (k∈l)=l.any λy=>k==y:=by
  apply HN.2;simp[Aw]
 rw[e,<-QyI];cases KM (λ_ y=>k==y) 0 l<;>rfl
def chP (h:Nat):Bool:=((Ju 3 h).getD []).all λrow=>(List.range h).all λk=>decide ((k:Int)∈row)||decide (Qbb row k=C (El (row++[(k:Int)])))
def QAy {O:Nat}{row:LI_}(h:row∈Uc 3 O)(hk:k<O)(hn:(k:Int) ∉ row):Qbb row k=C (El (row++[(k:Int)])):=by
 by_cases h4:O<=4
 ·have c:chP O=t_:=by
   rcases show O=0\/O=1\/O=2\/O=3\/O=4 by omega with e|e|e|e|e<;>subst e<;>kernel_rfl
  have:=XS.1 (XS.1 c row h) k (CU.2 hk);rw[Qn hn,Qco]at this;exact Xe this
 exfalso;unfold Uc Ju at h;have:((decide ((O:Int)<0))||((decide ((16:Int)<(O:Int)))||(((3:Int)==3)&&(decide ((4:Int)<(O:Int))))))=t_:=by simp;omega
 rw[this]at h;simp at h
def Qvu (h:QT n)(hr:RN n)(hm:QV (QV λ_=>True) m)(ho:Xv n o)(he:e∈n.Tasks)(hj:e.Join=3){z:Int}(hv:∀x∈env,XW x)(hch:o.Ins∈Uc e.Join e.Ins.length):
  Qq (λst=>Dm e o n (env,z) m st) 0=Qq (λst=>YL (Xr.mk n m e env) o.Ins st) 0:=by
 have hi:=(h.tk e he).2.1;have mx:(1000:Nat)<=maxLen:=by decide
 have hil:=ho.2.1;rw[hj]at hch;refine QbF (b1:=λst=>Dm e o n (env,z) m st) (b2:=λst=>YL (Xr.mk n m e env) o.Ins st) e.Ins.length (λi s=>s=(i:Int)) (λi s hI=>?_) (λi s s' hI O=>?_) 0 rfl
 ·subst hI;show Dm e o n (env,z) m i=YL (Xr.mk n m e env) o.Ins i;unfold Dm YL;rw[hj,show((3:Int)==3)=t_ from rfl,QaO];by_cases hlt:i<e.Ins.length
  ·rw[Ql (by omega:(i:Int)<(e.Ins.length:Int)),Qr,Qr,QAw (by omega),QAx (by omega),Qa,Qa];by_cases hin:(i:Int)∈o.Ins
   ·rw[Ql hin];rfl
   rw[Qn hin,Qe,Qe,QAy hch hlt hin,Vb _ (by omega),Qa,Qa,Yv (by simp;omega),Qa,QhP _ (by simp;omega),Qa,Yv (EX _),Qa];show(UJ n e.Ins _ env).bind _=_;rw[Qgg h hr (h.k.2.2.1.2 e he).2.2.2.2.2.1 (hr.i e he) (by rw[EX];simp;omega) hv];show _=(YC n e.Ins _ env).bind _;cases hx:YC n e.Ins (El (o.Ins++[(i:Int)])) env with
   |none=>rfl|some x=>
    simp only[Qa];have:=WG (TU n e.Ins _ env h (h.k.2.2.1.2 e he).2.2.2.2.2.1 (by rw[EX];simp;omega)) hx;unfold Qd5 HD;cases hz:(x.2==0)with
    |false=>rfl|true=>
     rw[Qr,Qr,Qlz ((this (by simpa using hz)).1.len h (by rw[EX];simp;omega)) hm];rfl
  rw[Qn (by omega:¬(i:Int)<(e.Ins.length:Int))];rfl
 subst hI;replace O:YL (Xr.mk n m e env) o.Ins i=C (.inl s'):=O;unfold YL at O;rcases Xy O with⟨c,O⟩|⟨_,O⟩
 ·have hlt:i<e.Ins.length:=by
   have:(i:Int)<(e.Ins.length:Int):=Xe c;omega
  refine⟨hlt,?_⟩;have fin:∀s',WE (i:Int)=C (.inl s')->s'=((i+1:Nat):Int):=λs' h=>by
   unfold WE at h;rw[<-Qo (n:=e.Ins.length) hlt (by omega)];cases h;rfl
  obtain⟨_,_,O⟩:=QI O;rcases Xy O with⟨_,O⟩|⟨_,O⟩
  ·exact fin s' O
  obtain⟨_,_,O⟩:=QI O;obtain⟨_,_,O⟩:=QI O;obtain⟨_,_,O⟩:=QI O;obtain⟨_,_,O⟩:=QI O;obtain⟨_,_,O⟩:=QI O;obtain⟨_,_,O⟩:=QI O;unfold HE at O;rcases Xy O with⟨_,O⟩|⟨_,O⟩
  ·cases O
  exact fin s' O
 cases O
def QcR (h:QT n)(hr:RN n)(hm:QV (QV λ_=>True) m)(ho:Xv n o):Bg n m o=Yb n m o:=by
 have hN:=QcQ h hr ho;have hG:=QpA h hr ho;unfold Yr at hN;unfold Bg Yb YY;obtain⟨⟨O,z⟩,e1,e2,e3⟩:=QnC h hr o.Task o.Vars;rw[e1]at hN hG;rw[e1,e2];simp only[Qa]at hN hG ⊢;cases hz:(z != 0)with
 |true=>
  have hz2:(z==0)=f_:=by simpa using hz
  rw[Qr,Qr,Qa];simp only[hz2,Qe];unfold Kl;rw[hz];rfl
 |false=>
  have hz0:z=0:=by simpa using hz
  obtain⟨hv,e,he,hmem⟩:=e3 hz0;rw[hz,Qe,he,Qa]at hN hG;rw[Qe,Qe,he,Qa,Qa,Qa];simp only[show((0:Int)==0)=t_ from rfl,Qr];obtain⟨x,x1,x2,_⟩:=Qrl (h.k.2.2.1.2 e hmem).2.2.1 (hr.g e hmem) hv;unfold XR;simp only[x1,x2,Qa];cases hx:(x.2 != 0)with
  |true=>
   simp only[Qr,Qa];unfold Kl;rw[hx];rfl
  |false=>
   simp only[Qe];cases hx0:(x.1==0)with
   |true=>rfl|false=>
    simp only[Qe,Qa];unfold Kl Hb Hc;simp only[show((0:Int) != 0)=f_ from rfl,Qe];rw[QpB,QpB,Nk,Nk,Qa,Qa,Qa];by_cases c1:o.Ins∈Uc e.Join e.Ins.length
    ·by_cases c2:o.Outs∈Uc e.Split e.Outs.length
     ·rw[Ql c1,Ql c2];simp only[Jq,Vk,Qe,Qa];rw[hN];unfold XD Ym;show _=(((YC n e.Ins o.Ins O).bind _).bind _:O_ Int);have kt:=TU n e.Ins o.Ins O h (h.k.2.2.1.2 e hmem).2.2.2.2.2.1 (by have:=ho.2.1;omega);obtain⟨T,hT,hT2⟩:=kt;rw[hT];simp only[Qa];cases ht:(T.2 != 0)with
      |true=>
       simp only[Qr,Qa,ht]
      |false=>
       simp only[Qe];rw[Qlz ((hT2 (by simpa using ht)).1.len h (by have:=ho.2.1;omega)) hm];obtain⟨w,hw,_⟩:=Qns T.1 m ((hT2 (by simpa using ht)).1.len h (by have:=ho.2.1;omega)) hm;rw[hw];simp only[Qa];cases w with
       |false=>rfl|true=>
        simp only[Jq,Qe];have fin:CF n o=(YC n e.Outs o.Outs O).bind λx=>C x.2:=by
         unfold CF;rw[hG];cases YC n e.Outs o.Outs O with|none=>rfl|some y=>rfl
        by_cases hj:e.Join=3
        ·rw[Qvu h hr hm ho hmem hj hv c1];simp only[hj,show((3:Int) != 3)=f_ from rfl,Qe];cases Qq (λst=>YL (Xr.mk n m e O) o.Ins st) 0 with
         |none=>rfl|some q=>
          rcases q with q|q
          ·rfl
          show CF n o=_;rw[fin];cases YC n e.Outs o.Outs O<;>rfl
        have hjb:(e.Join==3)=f_:=by simpa using hj
        have hjn:(e.Join != 3)=t_:=by simpa using hj
        simp only[hjn,Qr,Qa,show((0:Int) != 0)=f_ from rfl,Qe];have:Qq (λst=>Dm e o n (O,z) m st) 0=C (.inr ()):=by
         refine Qbk.2 (.done ?_);show Dm e o n (O,z) m 0=_;unfold Dm;rw[hjb,Bool.and_false];rfl
        rw[this];show CF n o=_;rw[fin];cases YC n e.Outs o.Outs O<;>rfl
     rw[Ql c1,Qn c2];rfl
    rw[Qn c1];rfl
def Qro {α β:Type}{l:L_ α}(g:α->L_ β){most:Nat}{body:Int×L_ β->O_ ((Int×L_ β)⊕(L_ β⊕L_ β))}(A:Nat)(hl:l.length<=maxLen)
  (hb:∀(i:Nat) h x,h.length<most->h.length+(g x).length<=A->i<l.length->l[i]? = C x->body ((i:Int),h)=C (match JF most h (g x)with | .inl a=>.inr (.inl a) | .inr a=>.inl (Qh ((i:Int)+1),a)))
  (hf:∀h,body ((l.length:Int),h)=C (.inr (.inr h))) {h:L_ β} (O:h.length<most) (hA:h.length+(l.flatMap g).length<=A):Qq body (0,h)=C (JF most h (l.flatMap g)):=by
 have key:∀(k i:Nat) h,i+k=l.length->h.length<most->h.length+((l.drop i).flatMap g).length<=A->Qq body ((i:Int),h)=C (JF most h ((l.drop i).flatMap g)):=by
  intro k
  induction k with
  |zero=>
   intro i h hk O hA;obtain rfl:i=l.length:=by omega
   rw[Yl,hf,List.drop_length];show _=C (JF most h []);rw[Va O];rfl
  |succ k ih=>
   intro i h hk O hA;have hi:i<l.length:=by omega
   rw[NE hi,Ay,YZ]at hA;rw[Yl,hb i h l[i] O (by omega) hi (Qv hi),NE hi,Ay,Qkk];cases hx:JF most h (g l[i])with
   |inl a=>rfl|inr a=>
    simp only;show Qq body (Qh ((i:Int)+1),a)=_;rw[Qo hi hl];refine ih (i+1) a (by omega) (Qo9 hx) ?_;have:=congrArg List.length (Qkl hx);rw[YZ]at this;omega
 have:=key l.length 0 h (by omega) O (by rw[List.drop_zero];exact hA);rwa[List.drop_zero]at this
def Qtn (n:Qc)(m:L_ QBg)(o:Qd):Bool:=decide (Yb n m o=C 0)
def QhZ (n:Qc)(m:L_ QBg)(o:Qd):L_ Qd:=if Qtn n m o=t_ then [o]else []
def Qto {α β:Type}(p:α->Bool)(f:α->β):∀l:L_ α,l.flatMap (λx=>if p x=t_ then [f x]else [])=(l.filter p).map f
 |[]=>rfl|x::l=>by
  rw[Ay,Qto p f l,Ax];cases p x<;>rfl
def QaN {α β:Type}{g:α->L_ β}:∀{l:L_ α},(∀x∈l,g x=[])->l.flatMap g=[]
 |[],_=>rfl|x::l,h=>by rw[Ay,h x Yc,QaN λy O=>h y (Ys _ O)];rfl
def Qh0 {α β:Type}{f g:α->L_ β}:∀{l:L_ α},(∀x∈l,f x=g x)->l.flatMap f=l.flatMap g
 |[],_=>rfl|x::l,h=>by rw[Ay,Ay,h x Yc,Qh0 λy O=>h y (Ys _ O)]
def QwZ (h:QT n)(hm:QV (QV λ_=>True) m)(he:idx n.Tasks O=C e)(hp:p.length<=20):
  GB n m O (Uc e.Join e.Ins.length) (Uc e.Split e.Outs.length) p=(Uc e.Join e.Ins.length).flatMap λi=>(Uc e.Split e.Outs.length).flatMap λk=>QhZ n m (Qd.mk O p i k):=by
 have r1:=(Sx e.Join e.Ins.length).2;have r2:=(Sx e.Split e.Outs.length).2;have key:∀i∈Uc e.Join e.Ins.length,∀k∈Uc e.Split e.Outs.length,(Qtn n m (Qd.mk O p i k)=t_↔∃b,YY n m O p=C (0,b)/\XR b=C 0/\XD b i=C 0/\Ym b k=C 0):=λi hi k hk=>by
  unfold Qtn;rw[decide_eq_true_iff,Vc h hm ⟨hp,by have:=r1.2 i hi;show i.length<=20;omega,by have:=r2.2 k hk;show k.length<=20;omega⟩,Av];constructor
  ·rintro ⟨_,e',he',_,_,_,b,hb⟩;exact⟨b,hb⟩
  rintro ⟨b,b1,b2⟩;obtain⟨k1,_,_,_,k2,_⟩:=BP h b1;rw[he]at k1;cases k1;exact⟨rfl,_,he,k2.1,hi,hk,b,b1,b2⟩
 unfold GB QhZ;cases hb:YY n m O p with
 |none=>
  symm;refine QaN λi hi=>QaN λk hk=>if_neg λc=>?_;obtain⟨b,b1,_⟩:=(key i hi k hk).1 c;rw[hb]at b1;cases b1
 |some x=>
  obtain⟨c,b⟩:=x;simp only;by_cases hc:c=0/\XR b=C 0
  ·rw[if_pos hc];refine Qh0 λi hi=>?_;by_cases ht:XD b i=C 0
   ·rw[if_pos ht,<-Qto];refine Qh0 λk hk=>?_;have e:Ll b k=Qtn n m (Qd.mk O p i k):=by
     apply HN.2;rw[key i hi k hk];unfold Ll;rw[decide_eq_true_iff];constructor
     ·intro hg;exact⟨b,by rw[hb,hc.1],hc.2,ht,hg⟩
     rintro ⟨b',b1,_,_,b2⟩;rw[hb]at b1;cases b1;exact b2
    rw[e]
   rw[if_neg ht];symm;refine QaN λk hk=>if_neg λc=>?_;obtain⟨b',b1,_,b2,_⟩:=(key i hi k hk).1 c;rw[hb]at b1;cases b1;exact ht b2
  rw[if_neg hc];symm;refine QaN λi hi=>QaN λk hk=>if_neg λc=>?_;obtain⟨b',b1,b2,_⟩:=(key i hi k hk).1 c;rw[hb]at b1;cases b1;exact hc ⟨rfl,b2⟩
def Qzw {α:Type}{most:Nat}{O:L_ α}{x:α}(h:O.length<most):JF most O [x]=if most<=O.length+1 then .inl (O++[x])else .inr (O++[x]):=by
 unfold JF;by_cases c:most<=O.length+1
 ·rw[if_pos c,if_neg (by simp;omega),YV (by simp;omega)]
 rw[if_neg c,if_pos (by simp;omega)]
def Qw0 (h:QT n)(hr:RN n)(hm:QV (QV λ_=>True) m){ins outs:L_ LI_}(hi:Po ins)(ho:Po outs)(hp:p.length<=20){acc:L_ Qd}(ha:acc.length<most.toNat)
  (hs:most<=4294967296\/acc.length+(ins.flatMap λi=>outs.flatMap λk=>QhZ n m (Qd.mk O p i k)).length<=4294967296):
  Qq (λst=>GX ins outs p n m O most st.1 st.2) (0,acc)=C (JF most.toNat acc (ins.flatMap λi=>outs.flatMap λk=>QhZ n m (Qd.mk O p i k))):=by
 have mx:(1000:Nat)<=maxLen:=by decide
 have hi1:=hi.1;have ho1:=ho.1;obtain⟨A,hA,hA2⟩:∃A,acc.length+(ins.flatMap λi=>outs.flatMap λk=>QhZ n m (Qd.mk O p i k)).length<=A/\(most<=4294967296\/A<=4294967296):=⟨_,Yk _,hs⟩;refine Qro (l:=ins) (λi=>outs.flatMap λk=>QhZ n m (Qd.mk O p i k)) (body:=λst:Int×L_ Qd=>GX ins outs p n m O most st.1 st.2) A (by omega) (λi acc x h1 h2 hlt hx=>?_) (λacc=>?_) ha hA
 ·show GX ins outs p n m O most i acc=_;have hxl:=hi.2 x (XB hx);unfold GX;rw[Ql (by omega:(i:Int)<(ins.length:Int)),Qr];rw[Qro (l:=outs) (λk=>QhZ n m (Qd.mk O p x k)) (body:=λst:Int×L_ Qd=>UL outs p ins i n m O most st.1 st.2) A (by omega) (λk acc y g1 g2 glt gy=>by
   show UL outs p ins i n m O most k acc=_;have hyl:=ho.2 y (XB gy);have hck:∃c,Yb n m (Qd.mk O p x y)=C c:=(QaH n m (Qd.mk O p x y) h hm ⟨hp,by show x.length<=20;omega,by show y.length<=20;omega⟩).tot;obtain⟨c,hc⟩:=hck;unfold UL Ml;rw[Ql (by omega:(k:Int)<(outs.length:Int)),Qr,Yv (by simp;omega),Qa,QG,hx,Qa,QG,gy,Qa,FR,QcR h hr hm ⟨hp,by show x.length<=20;omega,by show y.length<=20;omega⟩,hc,Qa];unfold QhZ Qtn at g2 ⊢;rw[hc]at g2 ⊢;by_cases hc0:c=0
   ·subst hc0;rw[if_pos (by simp)]at g2 ⊢;rw[Qzw g1];simp only[show((0:Int)==0)=t_ from rfl,Qr];rw[FO]at g2;rw[Yv (by rw[FO];omega),Qa,YZ,FO];by_cases hcut:most.toNat<=acc.length+1
    ·rw[if_pos hcut,Ql (by omega:most<=((acc.length+1:Nat):Int))];rfl
    rw[if_neg hcut,Qn (by omega:¬most<=((acc.length+1:Nat):Int))];rfl
   ·have e1:(c==0)=f_:=by simpa using hc0
    rw[if_neg (by simpa using hc0),Va g1,e1];rfl) (λacc=>by
   show UL outs p ins i n m O most outs.length acc=_;unfold UL;rw[Qn (by omega)];rfl) h1 h2,Qa]
  cases JF most.toNat acc (outs.flatMap λk=>QhZ n m (Qd.mk O p x k))<;>rfl
 show GX ins outs p n m O most ins.length acc=_;unfold GX;rw[Qn (by omega)];rfl
def Qw1 (h:QT n)(O:RN n)(t:QL)(s:Int×LI_):Qq (λst=>Mm t n st.1 st.2) s=Qq (λst=>Wi t n st.1 st.2) s:=by
 have e:(λst:Int×LI_=>Mm t n st.1 st.2)=λst=>Wi t n st.1 st.2:=by
  funext st;unfold Mm Wi Qd6 LK;simp only[Qrn h.k.1 O.c];rfl
 rw[e]
def Qt0 (h:QT n)(hr:RN n)(hm:QV (QV λ_=>True) m)(hmost:most<=4294967296\/(Yw n m O).length<=4294967296):FJ n m O most=C ((Yw n m O).take most.toNat):=by
 have key:Qg (FJ n m O most) λr=>r=(Yw n m O).take most.toNat:=by
  unfold FJ;refine T1 (λhc=>T2 ?_) λhc=>?_
  ·simp only[KG,Qw]at hc;rcases hc with hc|hc|hc
   ·unfold Yw idx;rw[if_neg (by omega)];simp
   ·unfold Yw idx;rw[if_pos (by omega),SA (by omega)];simp
   rw[show most.toNat=0 by omega,List.take_zero]
  simp only[Ku,QU]at hc;refine T0 (T4 (by omega) (by omega)).self λe he=>?_;have hv:=(h.tk e he.2).1;refine T0 (T5 (by simp only[QN,Qw];omega)) λ_ _=>?_;obtain⟨c1,r1⟩:=Sx e.Join e.Ins.length;obtain⟨c2,r2⟩:=Sx e.Split e.Outs.length;rw[Qek,c1,Qa,Qek,c2,Qa];have hsz:(Yd n e).length=e.Vars.length:=by simp[Yd]
  have hml:Yw n m O=(binds (Yd n e)).flatMap (GB n m O (Uc e.Join e.Ins.length) (Uc e.Split e.Outs.length)):=by
   unfold Yw;rw[he.1]
  have hrd:∀p:LI_,p.length<=20->GB n m O (Uc e.Join e.Ins.length) (Uc e.Split e.Outs.length) p=_:=λp hp=>QwZ h hm he.1 hp;rw[hml]at hmost ⊢;generalize hrl:GB n m O (Uc e.Join e.Ins.length) (Uc e.Split e.Outs.length)=rl at hmost hrd ⊢;refine T0 (Qq4 (λst:Bool×LI_×L_ Qd=>bif st.1 then(Ka (Yd n e) st.2.1).length+1 else 0)
   (λst=>(st.1=t_->st.2.1.length=e.Vars.length/\(∀d∈st.2.1,0<=d/\d<=1024)/\(st.2.2.length:Int)<most/\JF most.toNat st.2.2 ((st.2.1::Ka (Yd n e) st.2.1).flatMap rl)=JF most.toNat [] ((binds (Yd n e)).flatMap rl)/\st.2.2.length+((st.2.1::Ka (Yd n e) st.2.1).flatMap rl).length=((binds (Yd n e)).flatMap rl).length)/\
    (st.1=f_->Sum.inr st.2.2=JF most.toNat [] ((binds (Yd n e)).flatMap rl)))
   (Q:=λq:L_ Qd⊕L_ Qd=>q=JF most.toNat [] ((binds (Yd n e)).flatMap rl)) ⟨λ_=>⟨by simp,λd hd=>by have:=QaS hd;omega,by simp;omega,?_⟩,λh=>(by cases h)⟩ (λst hJ=>?_)) (λq hq=>?_)
  ·show JF most.toNat [] ((List.replicate (e.Vars.length:Int).toNat 0::Ka (Yd n e) (List.replicate (e.Vars.length:Int).toNat 0)).flatMap rl)=_/\0+((List.replicate (e.Vars.length:Int).toNat 0::Ka (Yd n e) (List.replicate (e.Vars.length:Int).toNat 0)).flatMap rl).length=_;rw[Qga (Yd n e),MS,hsz,XM,Gp];exact⟨rfl,rfl⟩
  ·obtain⟨mo,d,l⟩:=st;obtain⟨hT,hF⟩:=hJ;show Qg (Sa (Uc e.Join e.Ins.length) (Uc e.Split e.Outs.length) n m O most e mo d l) _;unfold Sa;cases mo with
   |false=>exact T2 ⟨λs' e=>(by cases e),λq eq=>(by cases eq;exact hF rfl)⟩
   |true=>
    obtain⟨j1,j2,j3,j4,j5⟩:d.length=e.Vars.length/\(∀d'∈d,0<=d'/\d'<=1024)/\(l.length:Int)<most/\JF most.toNat l ((d::Ka (Yd n e) d).flatMap rl)=JF most.toNat [] ((binds (Yd n e)).flatMap rl)/\l.length+((d::Ka (Yd n e) d).flatMap rl).length=((binds (Yd n e)).flatMap rl).length:=hT rfl;rw[Ay,YZ]at j5;rw[Qr,Qw0 h hr hm r1 r2 (by omega) (by omega) (by rw[<-hrd d (by omega)];omega),<-hrd d (by omega),Qa];rw[Ay,Qkk]at j4;cases hrr:JF most.toNat l (rl d)with
    |inl r=>
     rw[hrr]at j4;exact T2 ⟨λs' e=>(by cases e),λq eq=>(by cases eq;exact j4)⟩
    |inr r=>
     rw[hrr]at j4;have hacc:=Qo9 hrr;have hlen:=congrArg List.length (Qkl hrr);rw[YZ]at hlen;replace j4:JF most.toNat r ((Ka (Yd n e) d).flatMap rl)=JF most.toNat [] ((binds (Yd n e)).flatMap rl):=j4;show Qg (RZ e n d r) _;unfold RZ;rw[Qw1 h hr];refine T0 (Qq6 e n d h.k j1 hv j2) λq hq=>?_;obtain⟨a,d2⟩:=q;obtain⟨⟨q1,q2,q3⟩,q4,q5⟩:(-1<=a/\a<d.length/\d2=d.take (a+1).toNat++List.replicate (d.length-(a+1).toNat) 0)/\(∀(j:Nat) x s,a<(j:Int)->d[j]? = C x->(Yd n e)[j]? = C s->¬x+1<s)/\∀x s,0<=a->d[a.toNat]? = C x->(Yd n e)[a.toNat]? = C s->x+1<s/\x<1024:=hq;have hnx:=Qo8 (Yd n e) d;show Qg (RY r a d2) _;unfold RY;by_cases ha:0<=a
     ·have hlt:a.toNat<d.length:=by omega
      have hls:a.toNat<(Yd n e).length:=by omega
      have ed:idx d2 a=C d[a.toNat]:=by
       rw[DO (by omega),q3,Jh (by simp;omega),Kd,if_pos (by omega),Qv hlt]
      rw[Ql ha,Qr,ed,Qa,Qa];have h9:=q5 _ _ (by omega) (Qv hlt) (Qv hls);have h10:=j2 _ (Xc hlt);rw[Xb (by omega)];have e3:d2.set a.toNat (d[a.toNat]+1)=d.take a.toNat++(d[a.toNat]+1)::List.replicate (d.length-(a.toNat+1)) 0:=by
       rw[q3,show(a+1).toNat=a.toNat+1 by omega,Qnt hlt]
      rw[e3];have hd3:∀x∈d.take a.toNat++(d[a.toNat]+1)::List.replicate (d.length-(a.toNat+1)) 0,0<=x/\x<=1024:=λx hx=>by
       rcases YT.1 hx with hx|hx
       ·exact j2 x (FQ hx)
       rcases XP.1 hx with rfl|hx
       ·omega
       have:=QaS hx;omega
      have hlen2:(d.take a.toNat++(d[a.toNat]+1)::List.replicate (d.length-(a.toNat+1)) 0).length=e.Vars.length:=by simp;omega
      rw[Qua a.toNat (Yd n e) d _ _ (by omega) (Qv hlt) (Qv hls) h9.1 λj y z hj=>q4 j y z (by omega)]at hnx;simp only at hnx;rw[hnx]at j4;exact T2 ⟨λs' e'=>(by
       cases e';refine⟨?_,λ_=>⟨hlen2,hd3,by show(r.length:Int)<most;omega,j4,by show r.length+(List.flatMap rl (_::_)).length=_;rw[<-hnx];omega⟩,λh=>(by cases h)⟩;show(Ka (Yd n e) (d.take a.toNat++(d[a.toNat]+1)::List.replicate (d.length-(a.toNat+1)) 0)).length+1<(Ka (Yd n e) d).length+1;rw[hnx,WI];omega),λq e'=>(by cases e')⟩
     rw[Qn ha,Qe];refine T2 ⟨λs' e'=>(by
      cases e';refine⟨?_,(λh=>by cases h),λ_=>?_⟩
      ·show 0<(Ka (Yd n e) d).length+1;omega
      rw[QjJ (Yd n e) d λj x s=>q4 j x s (by omega)]at hnx;simp only at hnx;rw[hnx,List.flatMap_nil,Va hacc]at j4;exact j4),λq e'=>(by cases e')⟩
  rw[<-QsU (by omega:0<most.toNat),<-hq];rcases q with q|q<;>exact T2 rfl
 obtain⟨r,h1,h2⟩:=key;rw[h1,h2]
def Qvv (h:QT n)(hr:RN n)(hm:QV (QV λ_=>True) m)(hmost:most<=4294967296\/(Yw n m O).length<=4294967296):FJ n m O most=II n m O most:=by
 rw[Qt0 h hr hm hmost,QhQ n m O most h hm hmost]
def Qyk (h:QT n)(hr:RN n)(hm:QV (QV λ_=>True) m)(hi:XW most)(hb:most<=4294967296\/∀k:Nat,(Yw n m (k:Int)).length<=4294967296):Qbc n m most=Hd n m most:=by
 unfold Qbc Hd;have mx:(12:Nat)<=maxLen:=by decide
 have htl:=h.tl;unfold XW at hi;have e:Qq (λst:Int×L_ Qd=>Rg n m most st.1 st.2) (0,[])=Qq (λst:Int×L_ Qd=>Ua n m most st.1 st.2) (0,[]):=by
  have hms:∀(i:Nat) (l:L_ Qd),(l.length:Int)<=max most 0->Qh (most-(l.length:Int))<=4294967296\/(Yw n m (i:Int)).length<=4294967296:=λi l hl=>by
   rcases hb with hb|hb
   ·left;by_cases h0:0<=most
    ·rw[Xb (by omega)];omega
    rw[Xb (by omega)];omega
   exact .inr (hb i)
  refine QbF n.Tasks.length (λi s=>s.1=(i:Int)/\(s.2.length:Int)<=max most 0) (λi s hI=>?_) (λi s s' hI O=>?_) _ ⟨rfl,by simp;omega⟩
  ·obtain⟨x,l⟩:=s;obtain⟨h1,h2⟩:=hI;replace h1:x=(i:Int):=h1;subst h1;replace h2:(l.length:Int)<=max most 0:=h2;show Rg n m most i l=Ua n m most i l;unfold Rg Ua;rw[Qvv h hr hm (hms i l h2)]
  obtain⟨x,l⟩:=s;obtain⟨h1,h2⟩:=hI;replace h1:x=(i:Int):=h1;subst h1;replace h2:(l.length:Int)<=max most 0:=h2;replace O:Ua n m most i l=C (.inl s'):=O;unfold Ua at O;rcases Xy O with⟨c,O⟩|⟨_,O⟩
  ·have hlt:i<n.Tasks.length:=by simpa using c
   rw[QhQ n m i _ h hm (hms i l h2),Qa]at O;obtain⟨_,_,O⟩:=QI O;cases O;refine⟨hlt,Qo hlt (by omega),?_⟩;show((l++(Yw n m (i:Int)).take (Qh (most-(l.length:Int))).toNat).length:Int)<=_;have:=List.length_take_le (Qh (most-(l.length:Int))).toNat (Yw n m (i:Int));rw[YZ];by_cases h0:0<=most
   ·rw[Xb (by omega)]at this ⊢;omega
   rw[Xb (by omega)]at this ⊢;omega
  cases O
 rw[e];all_goals rfl
def Qw2 {a:QBg}(h:a.length+b.length<=4294967290):Lf a b=JS a b:=by
 unfold Lf Qfb Qfc;have ha:a.length<=maxLen:=by unfold maxLen;omega
 have hb:b.length<=maxLen:=by unfold maxLen;omega
 rw[Lx ha,Lx hb,Qa,Qbg hb ha];obtain⟨w,hw,hw2⟩:=AU b a hb ha;rw[hw];rcases FN a b (by omega)with⟨O,h2⟩|⟨O,h2,⟨k,h3⟩,h4⟩|⟨O,h2,h3,r,h4,h5,h6,h7⟩
 ·rw[h2,<-Jo,<-Jo]at *;cases ra:Uo (-1) a with
  |false=>rfl|true=>
   cases rb:Uo (-1) b with|false=>rfl|true=>exact absurd ⟨ra,rb⟩ O
 ·rw[Jo.2 O,Jo.2 h2,h4];have:w=f_:=by
   cases w with|false=>rfl|true=>have:=(hw2.1 rfl).2.2 k;omega
  rw[this];rfl
 rw[Jo.2 O,Jo.2 h2,hw2.2 ⟨h2,O,h3⟩,h4];simp only[Jq,Qe,Qa,FR,NG,Gp];rw[Yv (by omega),Qa];obtain⟨q,hq,hp1,hp2⟩:=Cf (body:=λst:Int×QBg=>AO b a st.1 st.2) b.length
  (λi s=>s.1=(i:Int)/\Rt s.2/\(∀k,QJ s.2 k=QJ a k-QJ (b.take i) k)/\s.2.length<=a.length+i)
  (λq=>Rt q/\∀k,QJ q k=QJ a k-QJ b k) (λi s hi hI=>by
   obtain⟨x,out⟩:=s;obtain⟨g1,g2,g3,g4⟩:=hI;replace g1:x=(i:Int):=g1;subst g1;replace g2:Rt out:=g2;replace g3:∀k,QJ out k=QJ a k-QJ (b.take i) k:=g3;replace g4:out.length<=a.length+i:=g4;have hx:b[i]? = C b[i]:=Qv hi;have hbi:=h2.2 _ (Xc hi);left;show ∃s',AO b a i out=_/\_;unfold AO;rw[Ql (by omega),Qr,QG,hx];simp only[Qa];have hc:=O.cnt b[i].1;have hle:=h3 b[i].1;rw[Eh h2.1.nd (Xc hi)]at hle;rw[Qj3 ha O,Qa,Xb (by omega)];obtain⟨r',r1,r2,r3,r4⟩:=Qtl (b:=out) (by omega) g2 (m:=b[i].1) (n:=QJ a b[i].1-b[i].2) (by omega) (by omega);rw[r1,Qa];refine⟨_,rfl,Qo hi hb,r2,λk=>?_,by show r'.length<=_;omega⟩;show QJ r' k=_;rw[r3,Qtm h2.1 hi,g3];by_cases ek:k=b[i].1
   ·subst ek;rw[if_pos rfl,if_pos rfl]
   ·rw[if_neg ek,if_neg ek]) (λs hI=>by
   obtain⟨x,out⟩:=s;obtain⟨g1,g2,g3,g4⟩:=hI;replace g1:x=(b.length:Int):=g1;subst g1;rw[Uf]at g3;refine⟨out,?_,g2,g3⟩;show AO b a b.length out=_;unfold AO;rw[Qn (by omega)];rfl) (0,a) ⟨rfl,O,λk=>by simp[QJ,Xg],by simp⟩
 rw[hq];have:q=r:=rt_ext hp1 h5 λk=>by rw[hp2,h6]
 subst this;rfl
def Qtp {a b:L_ QBg}{sum:Bool}{how:QBg->QBg->O_ (QBg×Int)}{body:Int×L_ QBg->O_ ((Int×L_ QBg)⊕(Int⊕L_ QBg))}(N:Nat)(hN:N<=100000)(ha:N<=a.length)(hb:N<=b.length)(hab:N=a.length\/N=b.length)
  (hh:∀x∈a,∀y∈b,(bif sum then BW x y else Lf x y)=how x y) (ht:∀x∈a,∀y∈b,∃z,how x y=C z)
  (hbody:∀(i:Nat) l,body ((i:Int),l)=bif decide ((i:Int)<(N:Int))then(idx a i).bind λx=>(idx b i).bind λy=>(how x y).bind λz=>(idx l i).bind λ_=>bif (z.2 != 0)then C (.inr (.inl z.2))else C (.inl (Qh ((i:Int)+1),l.set i z.1))else C (.inr (.inr l))):
  Qq (λst:Int×L_ QBg=>AP a b sum st.1 st.2) (0,[])=Qq body (0,List.replicate N []):=by
 have mx:(100000:Nat)<=maxLen:=by decide
 obtain⟨r,q,e1,e2,e3⟩:=QhY (b1:=λst:Int×L_ QBg=>AP a b sum st.1 st.2) (b2:=body) N
  (λi s t=>s.1=(i:Int)/\s.2.length=i/\t=((i:Int),s.2++List.replicate (N-i) [])) (λr q=>r=q) (λi s t hi hI=>by
   obtain⟨x,out⟩:=s;obtain⟨h1,h2,rfl⟩:=hI;replace h1:x=(i:Int):=h1;subst h1;replace h2:out.length=i:=h2;show(i<N/\∃s' t',AP a b sum i out=_/\body ((i:Int),out++List.replicate (N-i) [])=_/\_)\/∃r q,AP a b sum i out=_/\body ((i:Int),out++List.replicate (N-i) [])=_/\_;rw[hbody];unfold AP Oq;by_cases hlt:i<N
   ·have i1:i<a.length:=by omega
    have i2:i<b.length:=by omega
    obtain⟨z,hz⟩:=ht _ (Xc i1) _ (Xc i2);have h:=hh _ (Xc i1) _ (Xc i2);rw[hz]at h;have hrep:List.replicate (N-i) ([]:QBg)=[]::List.replicate (N-(i+1)) []:=by
     rw[show N-i=(N-(i+1))+1 by omega];rfl
    rw[Ql (by omega:(i:Int)<(a.length:Int)),Ql (by omega:(i:Int)<(b.length:Int)),Ql (by omega:(i:Int)<(N:Int)),QaO,Qr,Qr,QG,Qv i1,QG,Qv i2,QG,hrep,Kc (by omega),h2,Nat.sub_self];simp only[Qa,hz,List.getElem?_cons_zero];have one:(bif sum then(BW a[i] b[i]).bind λO=>bif (O.2 != 0)then C (.inr (.inl O.2))else(chk (decide (i+[O.1].length<=4294967296))).bind λ_=>C (.inl (Qh ((i:Int)+1),out++[O.1]))else(Lf a[i] b[i]).bind λx27=>bif (x27.2 != 0)then C (.inr (.inl x27.2))else(chk (decide (i+[x27.1].length<=4294967296))).bind λ_=>C (.inl (Qh ((i:Int)+1),out++[x27.1])):O_ ((Int×L_ QBg)⊕(Int⊕L_ QBg)))=bif (z.2 != 0)then C (.inr (.inl z.2))else(chk (decide (i+[z.1].length<=4294967296))).bind λ_=>C (.inl (Qh ((i:Int)+1),out++[z.1])):=by
     cases sum with|true=>simp only[Qr]at h ⊢;rw[h];rfl|false=>simp only[Qe]at h ⊢;rw[h];rfl
    rw[one];cases (z.2 != 0)with
    |true=>exact .inr ⟨_,_,rfl,rfl,rfl⟩|false=>
     left;rw[Qe,Qe,Yv (by simp;omega)];refine⟨hlt,_,_,rfl,rfl,Qo hlt (by omega),by simp;omega,?_⟩;rw[Qo hlt (by omega),List.set_append_right _ _ (by omega),h2,Nat.sub_self,Kh];rfl
   right;have hf:(decide ((i:Int)<(a.length:Int))&&decide ((i:Int)<(b.length:Int)))=f_:=by
    rcases hab with e|e
    ·rw[Qn (by omega:¬(i:Int)<(a.length:Int))];rfl
    rw[Qn (by omega:¬(i:Int)<(b.length:Int)),Bool.and_false]
   rw[hf,Qn (by omega:¬(i:Int)<(N:Int))];exact⟨_,_,rfl,rfl,by rw[show N-i=0 by omega];simp⟩) (0,[]) (0,List.replicate N []) ⟨rfl,rfl,rfl⟩
 rw[e1,e2,e3]
def Qh1 (a b:Nat):min2 (a:Int) (b:Int)=((min a b:Nat):Int):=by
 unfold min2;split<;>omega
def Qtq {a b:L_ QBg}(hl:a.length<=100000)(h:∀x∈a,∀y∈b,x.length+y.length<=4294967290):EO a b t_=Ws a b:=by
 unfold EO Ws;rw[Qh1,BO (by simp;omega),Qa,XM];rw[Qtp (sum:=t_) (how:=JV) (body:=λst:Int×L_ QBg=>Wh a b st.1 st.2) (min a.length b.length) (by omega) (by omega) (by omega) (by omega) (λx O y hy=>QnB (h x O y hy)) (λx O y hy=>by
  rcases Au x y (by have:=h x O y hy;omega)with⟨_,e⟩|⟨_,_,_,e⟩|⟨_,_,r,e,_⟩<;>exact⟨_,e⟩) (λi l=>by
  show Wh a b i l=_;unfold Wh;rw[Qh1,XM,Qcu,XM])]
 all_goals cases Qq (λst:Int×L_ QBg=>Wh a b st.1 st.2) (0,List.replicate (min a.length b.length) [])with|none=>rfl|some q=>cases q<;>rfl
def Qw3 {a b:L_ QBg}(hl:a.length<=100000)(h:∀x∈a,∀y∈b,x.length+y.length<=4294967290):EO a b f_=Jd a b:=by
 unfold EO Jd;rw[Qh1,BO (by simp;omega),Qa,XM];rw[Qtp (sum:=f_) (how:=JS) (body:=λst:Int×L_ QBg=>JT a b st.1 st.2) (min a.length b.length) (by omega) (by omega) (by omega) (by omega) (λx O y hy=>Qw2 (h x O y hy)) (λx O y hy=>by
  rcases FN x y (by have:=h x O y hy;omega)with⟨_,e⟩|⟨_,_,_,e⟩|⟨_,_,_,r,e,_⟩<;>exact⟨_,e⟩) (λi l=>by
  show JT a b i l=_;unfold JT;rw[Qh1,XM,Qcu,XM])]
 all_goals cases Qq (λst:Int×L_ QBg=>JT a b st.1 st.2) (0,List.replicate (min a.length b.length) [])with|none=>rfl|some q=>cases q<;>rfl
def Qvw (h:QT n)(hm:QV (QV λ_=>True) m)(ho:Xv n o)(hc:Yb n m o=C 0):∃need,Yr n o=C (need,0):=by
 obtain⟨_,e,he,_,_,_,b,b1,b2,O,b4⟩:=Av.1 ((Vc h hm ho).1 hc);obtain⟨k1,k2,k3,k4,k5,k6⟩:=BP h b1;unfold Yr;rw[k6,k1];unfold XD at O;rw[k3]at O;obtain⟨x,hx,O⟩:=QI O;rcases Xy O with⟨c,O⟩|⟨c,_⟩
 ·rw[Option.some.inj O]at c;cases c
 refine⟨x.1,?_⟩;simp only[Qa,show((0:Int) != 0)=f_ from rfl,Qe];rw[hx];have:x.2=0:=by simpa using c
 show C (x.1,x.2)=_;rw[this]
def Qrp (h:QT n)(hr:RN n){c:Nat}(hc:c<=900000)(hm:KF n c m)(ho:Xv n o):Pf n m o=KV n m o:=by
 unfold Pf KV;have hml:=hm.len h (by omega);rw[QcR h hr hml ho];obtain⟨x,hx,_⟩:=QaH n m o h hml ho;rw[hx,Qa,Qa];cases hz:(x != 0)with
 |true=>rfl|false=>
  have:x=0:=by simpa using hz
  subst this;obtain⟨need,O⟩:=Qvw h hml ho hx;have hn:=(WG (Nj n o h ho) O rfl).1;rw[Qe,Qe,QcQ h hr ho,O,Qa,Qa];simp only[show((0:Int) != 0)=f_ from rfl,Qe];rw[Qw3 (by have:=hm.1;have:=h.pl;omega) λx hx y hy=>by
   have:=(hm.2 x hx).2;have:=(hn.2 y hy).2;omega]
def Qtr (h:QT n)(hr:RN n)(O:Xv n o):Bf n o=Ah n o:=QpA h hr O
def Qw4 (h:QT n)(hr:RN n){c:Nat}(hc:c<=900000)(hm:KF n c m)(ho:Xv n o){O:L_ QBg}(hn:Yr n o=C (O,0)):EO m O t_=Ws m O:=
 Qtq (by have:=hm.1;have:=h.pl;omega) λx hx y hy=>by
  have:=(hm.2 x hx).2;have:=((WG (Nj n o h ho) hn rfl).1.2 y hy).2;omega
def Qt1 (e:QL)(m:L_ QBg):Qq (λst:Int×L_ QBg=>Ot e st.1 st.2) (0,m)=Qq (λst:Int×L_ QBg=>JJ e st.1 st.2) (0,m):=by
 have h:(λst:Int×L_ QBg=>Ot e st.1 st.2)=λst=>JJ e st.1 st.2:=by
  funext st;unfold Ot JJ Qfe Qff;cases decide (st.1<(e.Cancel.length:Int))with
  |false=>rfl|true=>
   rw[Qr,Qr];cases idx e.Cancel st.1 with
   |none=>rfl|some k=>
    simp only[Qa];cases decide (0<=k)with
    |false=>rfl|true=>
     cases decide (k<(st.2.length:Int))with|false=>rfl|true=>rfl
 rw[h]
def Qvx {q:L_ QBg}{c:Nat}(hc:e.Cancel.length<=16)(hm:∀b∈m,b.length<=c)(h:Qq (λst:Int×L_ QBg=>JJ e st.1 st.2) (0,m)=C q):q.length=m.length/\∀b∈q,b.length<=c:=by
 have key:Qg (Qq (λst:Int×L_ QBg=>JJ e st.1 st.2) (0,m)) λq=>q.length=m.length/\∀b∈q,b.length<=c:=by
  refine Qg.up e.Cancel.length (λst=>st.1) (λst=>st.2.length=m.length/\∀b∈st.2,b.length<=c) rfl ⟨rfl,hm⟩ (λi st hi hn hJ=>?_);obtain⟨x,l⟩:=st;replace hi:x=(i:Int):=hi;subst hi;obtain⟨j1,j2⟩:l.length=m.length/\∀b∈l,b.length<=c:=hJ;show Qg (JJ e i l) _;unfold JJ Ed;refine T1 (λO=>?_) λ_=>T2 (Qp ⟨j1,j2⟩);simp only[Qw]at O;have hw:Qh ((i:Int)+1)=((i+1:Nat):Int):=Qo (show i<e.Cancel.length by omega) (by unfold maxLen;omega);refine T0 (T4 (by omega) O) λk _=>?_;refine T1 (λhk=>?_) λ_=>T2 (QH ⟨by omega,hw,j1,j2⟩);simp only[QN,Qw]at hk;refine T0 (T4 hk.1 hk.2) λ_ _=>T2 (QH ⟨by omega,hw,by simpa using j1,λb hb=>?_⟩);rcases QaG hb with rfl|hb
  ·simp
  exact j2 b hb
 exact WG key h
def Qrq (h:QT n)(hr:RN n){c:Nat}(hc:c<=900000)(hm:KF n c m)(ho:Xv n o):Pg n m o=WC n m o:=by
 unfold Pg WC;rw[Qtr h hr ho];obtain⟨x,hx,hx2⟩:=Qkm n o h ho;rw[hx,Qa,Qa];cases hz:(x.2 != 0)with
 |true=>rfl|false=>
  obtain⟨⟨g1,_⟩,g2,g3⟩:=hx2 (by simpa using hz);have hpl:=h.pl;have hml:=hm.1;have hmem:(n.Tasks[o.Task.toNat]'(by omega))∈n.Tasks:=Xc _;rw[Qe,Qe,Yv (by simp;omega),Qa,Lk m (by omega) λb O=>by have:=(hm.2 b O).2;omega,Qa,Sv g2 g3,Qa,Qa,FR,Qt1];cases hq:Qq (λst:Int×L_ QBg=>JJ (n.Tasks[o.Task.toNat]'(by omega)) st.1 st.2) (0,m)with
  |none=>rfl|some q=>
   obtain⟨q1,q2⟩:=Qvx (h.tk _ hmem).2.2.2 (λb O=>(hm.2 b O).2) hq;rw[Qa,Qa];unfold Qfg Uz;rw[Qtq (by omega) λa ha b O=>by
    have:=q2 a ha;have:=(g1.2 b O).2;omega]
def Qzx (h:QT n)(hr:RN n){c:Nat}(hc:c<=800000)(hm:KF n c m)(O:Xv n o):QcI n m o=YP n m o:=by
 unfold QcI YP;rw[Qrp h hr (by omega) hm O];obtain⟨x,hx,hx2⟩:=Qpo n m o c h hm (by omega) O;rw[hx,Qa,Qa];cases hz:(x.2 != 0)with|true=>rfl|false=>rw[Qe,Qe,Qrq h hr (c:=c+20) (by omega) (hx2 (by simpa using hz)) O]
def Qt2 (h:Qtd c):Md c=C c:=by
 have mx:(100000:Nat)<=maxLen:=by decide
 have hM:=h.m;have hi:=h.i;have m1:Qg (Qq (λst=>Fe c st.1 st.2) (0,([]:L_ QBg))) λq=>q=c.M:=by
  refine Qg.up c.M.length (λst:Int×L_ QBg=>st.1) (λst:Int×L_ QBg=>st.2=c.M.take st.1.toNat) rfl rfl (λi st O hn hJ=>?_);obtain⟨x,l⟩:=st;replace O:x=(i:Int):=O;subst O;replace hJ:l=c.M.take i:=hJ;subst hJ;show Qg (Fe c i (c.M.take i)) _;unfold Fe;refine T1 (λhc=>?_) (λhc=>T2 (Qp ?_))
  ·simp only[Qw]at hc;have i1:i<c.M.length:=by omega
   have hx:=Qv i1;have hb:=h.b _ (Xc i1);rw[QG,hx,Qa,Yv (by simp;omega),Qa,Yv (by simp;omega),Qa];refine T2 (QH ⟨i1,Qo i1 (by omega),?_⟩);rw[Qo i1 (by omega)];show c.M.take i++[[]++c.M[i]]=c.M.take (i+1);rw[JY,hx];rfl
  simp only[QU]at hc;exact YV (by omega)
 have m2:Qg (Qq (λst=>Ff c st.1 st.2) (0,([]:L_ Qm))) λq=>q=c.Items:=by
  refine Qg.up c.Items.length (λst:Int×L_ Qm=>st.1) (λst:Int×L_ Qm=>st.2=c.Items.take st.1.toNat) rfl rfl (λi st O hn hJ=>?_);obtain⟨x,l⟩:=st;replace O:x=(i:Int):=O;subst O;replace hJ:l=c.Items.take i:=hJ;subst hJ;show Qg (Ff c i (c.Items.take i)) _;unfold Ff;refine T1 (λhc=>?_) (λhc=>T2 (Qp ?_))
  ·simp only[Qw]at hc;have i1:i<c.Items.length:=by omega
   have hx:=Qv i1;have hb:=h.f _ (Xc i1);rw[QG,hx,Qa,Yv (by simp;omega),Qa,Yv (by simp;omega),Qa,Yv (by simp;omega),Qa,Yv (by simp;omega),Qa];refine T2 (QH ⟨i1,Qo i1 (by omega),?_⟩);rw[Qo i1 (by omega)];show c.Items.take i++[c.Items[i]]=c.Items.take (i+1);rw[JY,hx];rfl
  simp only[QU]at hc;exact YV (by omega)
 obtain⟨q,q1,rfl⟩:=m1;obtain⟨p,p1,rfl⟩:=m2;unfold Md;rw[q1,Qa];unfold ZQ;rw[p1];rfl
def Qvy {m:L_ Bag}(h:QT n)(hr:RN n)(hg:XL n m):SS n m=C t_:=by
 obtain⟨hm,hl⟩:=hg;have hpl:=h.pl;have hm1:=hm.1;unfold SS;rw[show((m.length:Int) != (n.Places.length:Int))=f_ by simp;omega,Qe];obtain⟨r,h1,h2⟩:=(Qg.up (body:=λst=>Mf m n st) m.length (λst=>st) (λ_=>True) (Q:=λq:Unit⊕Unit=>q=.inr ()) (s0:=(0:Int)) rfl trivial (λi st hi hn hJ=>by
  show Qg (Mf m n st) _;unfold Mf;refine T1 (λhc=>?_) (λ_=>T2 (Qp rfl));simp only[Qw]at hc;have O:i<m.length:=by omega
  have i2:i<n.Places.length:=by omega
  have hb:=hm.2 _ (Xc O);have hbl:=hb.2;rw[hi,QG,Wy O,Qa,Lx (by unfold maxLen;omega),Qa,QG,Wy i2,Qa,Qrn h.k.1 hr.c,Jo.2 hb.1];refine T0 (KW n.Colours (n.Places[i]).Colour h.k.1).self λsz hsz=>?_;refine T0 (P:=λr=>r=t_) ?_ λx hx=>?_
  ·refine Qg.up (body:=λst:Bool×Int=>Me m i sz st.1 st.2) (m[i]).length (λst=>st.2) (λst=>st.1=t_) rfl rfl (λj st hj hn2 hJ=>?_);obtain⟨ok,k⟩:=st;replace hj:k=(j:Int):=hj;replace hJ:ok=t_:=hJ;subst hj hJ;show Qg (Me m i sz t_ j) _;unfold Me;rw[QG,Wy O,Qa];refine T1 (λhc=>?_) (λ_=>T2 (Qp rfl));simp only[Qw]at hc;have j1:j<(m[i]).length:=by omega
   unfold QdX;rw[Qr,QG,Wy O,Qa,QG,Wy j1,Qa,Qa];have hcn:=Eh hb.1.1.nd (Xc j1);have hpos:=hb.1.2 _ (Xc j1);obtain⟨z,hz1,hz2⟩:=hl i _ _ (Wy O) (Wy i2) _ (by rw[hcn];omega);rw[hsz.1]at hz1;cases hz1;rw[Ql hz2];exact T2 (QH ⟨j1,Qo j1 (by unfold maxLen;omega),rfl⟩)
  subst hx;show Qg (QdY _ t_) _;exact T2 (QH ⟨O,Qo O (by unfold maxLen;omega),trivial⟩)))
 rw[h1,h2];rfl
def Qw5 (h:QT n)(hr:RN n)(O:Kb n c):SW n c=C t_:=by
 have hL:=O.lens h;have hi:=hL.i;have mx:(1000:Nat)<=maxLen:=by decide
 have h1:=O.n1;have h2:=O.n2;have hlen:=O.len;unfold SW;rw[Qvy h hr O.g,Qa,QtV (by omega),Qa,O.up,Ql (by omega),Qn (by omega),Qn (by omega),Qn (by omega),Qn (by omega)];simp only[QaO,Jq,Vk,Qe];obtain⟨r,q1,q2⟩:=(Qg.up (body:=λst=>Mj c n st) c.Items.length (λst=>st) (λ_=>True) (Q:=λq:Unit⊕Unit=>q=.inr ()) (s0:=(0:Int)) rfl trivial (λi st hi2 hn hJ=>by
  show Qg (Mj c n st) _;unfold Mj;refine T1 (λhc2=>?_) (λ_=>T2 (Qp rfl));simp only[Qw]at hc2;have i1:i<c.Items.length:=by omega
  obtain⟨m1,⟨a,m2⟩,b,m3⟩:=O.f _ (Xc i1);rw[hi2,QG,Wy i1,Qa,QcQ h hr m1,m2,Qa,Qa,Qtr h hr m1,m3,Qa];exact T2 (QH ⟨i1,Qo i1 (by omega),trivial⟩)))
 rw[q1,q2];rfl
def Qvz {a m:L_ Bag}(ha:QV (QV λ_=>True) a)(hm:QV (QV λ_=>True) m)(hw:GH a m=C t_):∀(j:Nat) x y,a[j]? = C x->m[j]? = C y->Rt x/\Rt y/\∀k,QJ x k<=QJ y k:=by
 unfold GH XK at hw;obtain⟨x,h,hw⟩:=QI hw;cases hw;rcases Xy h with⟨_,h⟩|⟨c,h⟩
 ·cases h
 have hl:a.length=m.length:=by simp at c;omega
 have main:Qg (Qq (λst=>QS a m st) 0) λq=>q=.inr ()->∀(j:Nat) x y,a[j]? = C x->m[j]? = C y->Rt x/\Rt y/\∀k,QJ x k<=QJ y k:=by
  refine Qg.up a.length (λst=>st) (λst=>∀(j:Nat) x y,(j:Int)<st->a[j]? = C x->m[j]? = C y->Rt x/\Rt y/\∀k,QJ x k<=QJ y k) rfl (λj x y hj=>by omega) (λi st hi hn hJ=>?_);replace hi:st=(i:Int):=hi;subst hi;show Qg (QS a m i) _;unfold QS;refine T1 (λhc=>?_) (λhc=>T2 (Qp λ_ j x y h=>?_))
  ·simp only[Qw]at hc;have O:i<a.length:=by omega
   have i2:i<m.length:=by omega
   rw[QG,Wy O,Qa,QG,Wy i2,Qa];obtain⟨r,hr,hr2⟩:=AU a[i] m[i] (ha.2 _ (Xc O)).1 (hm.2 _ (Xc i2)).1;rw[hr,Qa];refine T1 (λ_=>T2 (Qp λe=>by cases e)) λhb=>T2 (QH ⟨O,Qo O ha.1,λj x y hj h hy=>?_⟩);rw[Qo O ha.1]at hj;by_cases cj:j=i
   ·subst cj;rw[Wy O]at h;cases h;rw[Wy i2]at hy;cases hy;exact hr2.1 (by simpa using hb)
   exact hJ j x y (by omega) h hy
  simp only[QU]at hc;exact hJ j x y (by have:=(Xf.1 h).1;omega) h
 obtain⟨q,q1,q2⟩:=main;rw[q1,Qa]at h;rcases q with q|q
 ·cases h
 exact q2 rfl
def Qyl {m:L_ Bag}(h:QT n)(hg:XL n m)(ho:Xv n o)(hc:Yb n m o=C 0):∃O t,Yr n o=C (O,0)/\Jd m O=C (t,0)/\KV n m o=C (t,0):=by
 have hm:=hg.1;obtain⟨_,e,he,_,_,_,b,hb,_,ht,_⟩:=Av.1 ((Vc h (hm.len h (by omega)) ho).1 hc);obtain⟨k1,k2,hbn,hbm,_⟩:=BP h hb;rw[he]at k1;cases k1;have hE:∃env,DA n o.Task o.Vars=C (env,0)/\b.env=env:=by
  unfold YY at hb;obtain⟨⟨x1,x2⟩,hx,hb⟩:=QI hb;rcases Xy hb with⟨c,hb⟩|⟨c,hb⟩
  ·simp only[Option.some.injEq,Prod.mk.injEq]at hb;simp only[hb.1]at c;cases c
  simp only[KA]at c;subst c;rw[he,Qa]at hb;simp only[Option.some.injEq,Prod.mk.injEq,true_and]at hb;exact⟨x1,hx,by rw[<-hb]⟩
 obtain⟨env,hE,hbe⟩:=hE;unfold XD at ht;obtain⟨⟨O,y⟩,hT,ht⟩:=QI ht;rcases Xy ht with⟨c,ht⟩|⟨c,ht⟩
 ·simp only[Option.some.injEq]at ht;simp only[ht]at c;cases c
 simp only[KA]at c;subst c;obtain⟨w,hw,ht⟩:=QI ht;rcases Xy ht with⟨c,ht⟩|⟨c,ht⟩
 ·cases ht
 have c:w=t_:=by simpa using c
 subst c;rw[hbm]at hw;rw[hbn,hbe]at hT;have hN:Yr n o=C (O,0):=by
  unfold Yr;rw[hE,Qa,show((0:Int) != 0)=f_ from rfl,Qe,he,Qa];rw[hT];rfl
 obtain⟨hnd,_⟩:=WG (Nj n o h ho) hN rfl;have hW:=Qvz (hnd.len h (by omega)) (hm.len h (by omega)) hw;obtain⟨⟨t,z⟩,j1,j2,j3⟩:=Qgf n m O 1024 20 h hm hnd (by omega);have hz:z=0:=j3 λj x y hx hy=>by
  obtain⟨r1,r2,r3⟩:=hW j y x hy hx;have l1:=(QyF hm hx).2.2;have l2:=(QyF hnd hy).2.2;exact Qx3 (by omega) r2 r1 r3
 subst hz;exact⟨O,t,hN,j1,Qy6 hc hN j1⟩
def QAz (a b:Int):decide (a<=b)=!decide (b<a):=by
 by_cases c:b<a
 ·rw[Ql c,Qn (by omega)];rfl
 rw[Qn c,Ql (by omega)];rfl
def Qt3 (m:Int×Int×Int)(k:Int):SY m k=Cw m k:=by
 have h:∀m:Int×Int×Int,CI k m=EI k m:=λm=>by
  unfold CI EI VU VV;simp only[Hs,Qa,QAz];cases decide (m.1<1)<;>cases decide (m.2.1<m.1)<;>cases decide (16<m.2.1)<;>cases decide (m.2.2<1)<;>cases decide (m.2.1<m.2.2)<;>cases decide (k<m.1)<;>cases decide (m.2.1<k)<;>rfl
 unfold SY Cw;rw[h,h]
def QvA {b:Xj}(hb:Mw b=t_):Qbd b=PJ b/\Zw b=Nb b/\Zx b=Nc b:=by
 obtain⟨h,h2,h3⟩:=Qfy.1 hb;have hr:JR b=C t_:=by rw[Vd,Ql h]
 have O:KU b=C f_:=by rw[QhX,Ql h,Qn (by omega),Qn h3];rfl
 unfold RB at h;unfold Qbd Zw Zx PJ Nb Nc;have s0:GA b 1 0 0=Dv b 0:=by
  unfold GA Dv DB Ir;simp only[Ro,QbE,hr,O,Qa,Jq,Qe];rw[Xb (n:=b.Done+0) (by omega),Xb (n:=b.Failed+0) (by omega),Int.add_zero,Int.add_zero];rfl
 have s1:GA b (-1) 1 0=Dv b 1:=by
  unfold GA Dv Uy DB;simp only[Ro,QbE,hr,O,Qa,Jq,Qe];rw[Xb (n:=b.Failed+0) (by omega),Xb (n:=b.Failed-1) (by omega),Xb (n:=b.Failed-1+1) (by omega),Int.add_zero,Int.sub_add_cancel];rfl
 have s2:GA b (-1) 0 1=Dv b 2:=by
  unfold GA Dv Uy DB;simp only[Ro,QbE,hr,O,Qa,Jq,Qe];rw[Xb (n:=b.Done+0) (by omega),Int.add_zero];rfl
 rw[s0,s1,s2];exact⟨rfl,rfl,rfl⟩
def QvB (b:Xj):Zy b=BU b:=by
 unfold Zy Qfl BU PL;rw[Ro];rfl
def Qsg (h:Kb n c):∀x∈c.Items,lens x<=1000:=λx O=>by
 have:=(h.f x O).1;unfold Xv at this;unfold lens;omega
def QcS {l:L_ Qm}{id:Int}(h:l.length<=maxLen):CL l id=KR l id:=by rw[Qpt h,QqK h]
def QvC (h:Kb n c)(id:Int):Lg c.Items id=Ai c.Items id:=by
 have hl:=h.len;rw[Qpu (Qsg h) (by omega) (Bt h),Qko (λx O=>ZX.of ((Qsg h) x O)) (by omega) (Bt h)]
def Qrr (O:Kb n c){x:Qm}(h:Xv n x.Mode):Ni c.Items x=US c.Items x:=by
 have hl:=O.len;have h:lens x<=1000:=by unfold Xv at h;unfold lens;omega
 rw[QwJ (Qsg O) h (by omega) (Bt O),Qs6 (λx h=>ZX.of ((Qsg O) x h)) (ZX.of h) (by omega) (Bt O)]
def Qw6 {L:L_ Qm}{now:Int}(h:L.length<=80):Ss L now=HF L now:=by
 obtain⟨S,O,h2,h3⟩:=Qzm (now:=now) h;rw[h3,Qrd h O h2]
def QvD {m:L_ Bag}(h:QT n)(hr:RN n)(hg:XL n m)(O:Xv n o):Zz n m o=BV n m o:=by
 unfold Zz BV;rw[QcQ h hr O];obtain⟨⟨need,e⟩,hN,_⟩:=Nj n o h O;rw[hN,Qa,Qa];simp only;cases hz:(e != 0)with
 |true=>rfl|false=>
  have:e=0:=by simpa using hz
  subst this;rw[Qe,Qe,Qw4 h hr (c:=1024) (by omega) hg.1 O hN]
def QlA (h:QT n)(hr:RN n)(hc:Kb n c)(k:Xt){p:Qm}(hp:Xv n p.Mode)(O:Bool):Lh n c p O=(bif O then Wc ⟨n,c,k⟩ p else YA ⟨n,c,k⟩ p).bind λr=>C (r.1,r.2.now):=by
 obtain⟨⟨M,e⟩,hB,_⟩:=Qrf h hc.g hp;obtain⟨⟨M2,e2⟩,hG,_⟩:=Qre h hc.g hp;have hD:=QvC hc p.Id;unfold Lh Ie Wc YA;simp only;rw[QvD h hr hc.g hp,Qrq h hr (c:=1024) (by omega) hc.g.1 hp,hD,hB,hG];simp only[Qa];cases Ai c.Items p.Id<;>cases O<;>cases e != 0<;>cases e2 != 0<;>rfl
def Ig (c:QF)(r:Int×Qz×QR):QF×Qz:=bif r.1 != 0 then(c,⟨r.1,0,[]⟩)else(r.2.2.now,r.2.1)
def Qup (h:QT n)(hr:RN n)(hc:Kb n c)(k:Xt){p:Qm}(hp:Xv n p.Mode)(hi:p.Id=k.Id)(O:Bool):Gf c k n t_ O p=((bif O then Wc ⟨n,c,k⟩ p else YA ⟨n,c,k⟩ p).bind λr=>C (r.1,(⟨0,p.Id,[p.Id]⟩:Qz),r.2)).bind λr=>C (Ig c r):=by
 unfold Gf YO Ig;rw[Jq,Qe,QlA h hr hc k hp,hi];cases (bif O then Wc ⟨n,c,k⟩ p else YA ⟨n,c,k⟩ p)with
 |none=>rfl|some r=>
  simp only[Qa];cases r.1 != 0<;>rfl
def Quq (hc:Kb n c)(k:Xt)(O:∀y∈c.Items,y.Id≠k.Id):∃e z,e≠0/\JE ⟨n,c,k⟩=C (e,z)/\Dn n c k=C (c,⟨e,0,[]⟩):=by
 have hm:=Bt hc;have hF:=Qrb hm O;have hR:Dn n c k=bif (decide (1<=k.Id))&&(decide (k.Id<c.Next))then C (c,⟨12,0,[]⟩)else C (c,⟨3,0,[]⟩):=by
  unfold Dn YO;rw[QcS hm,hF];rfl
 have h:∃z,JE ⟨n,c,k⟩=bif (decide (0<k.Id))&&(decide (k.Id<c.Next))then C (12,z)else C (3,z):=by
  unfold JE;simp only;rw[hF];exact⟨_,rfl⟩
 obtain⟨z,h⟩:=h;have e1:decide (1<=k.Id)=decide (0<k.Id):=by
  by_cases c1:0<k.Id
  ·rw[Ql c1,Ql (by omega)]
  rw[Qn c1,Qn (by omega)]
 rw[h,hR,e1];cases decide (0<k.Id)&&decide (k.Id<c.Next)with|true=>exact⟨12,z,by omega,rfl,rfl⟩|false=>exact⟨3,z,by omega,rfl,rfl⟩
def Qts (hc:Kb n c)(k:Xt)(h:¬∀y∈c.Items,y.Id≠k.Id):∃(i:Nat) (y:Qm),KR c.Items k.Id=C (i:Int)/\c.Items[i]? = C y/\y.Id=k.Id/\Xv n y.Mode/\Mw y.Batch=t_/\JE ⟨n,c,k⟩=C (0,y):=by
 have hm:=Bt hc;obtain⟨x,h⟩:=Classical.not_forall.1 h;obtain⟨h,he⟩:=Classical.not_imp.1 h;obtain⟨i,y,h1,O,h3⟩:=Qfx hm h (Classical.not_not.1 he);have hy:=XB O;refine⟨i,y,h1,O,h3,(hc.f y hy).1,((Lm.1 hc.up).2 y hy).2.2.2,?_⟩;unfold JE;simp only;rw[h1,Qa,Ql (by omega),Qr,QG,O];rfl
def Qw7 (h:QT n)(hr:RN n)(hc:Kb n c)(k:Xt)(hd5:k.Do≠5):Dn n c k=(WD ⟨n,c,k⟩).bind λr=>C (Ig c r):=by
 have hm:=Bt hc;unfold WD;by_cases hno:∀y∈c.Items,y.Id≠k.Id
 ·obtain⟨e,z,h0,h1,h2⟩:=Quq hc k hno;rw[h1,h2,Qa,Sd,Qn h0];have hz:(e != 0)=t_:=by simpa using h0
  unfold YB Ig;simp only[Qe,hz,Qr,Qa]
 obtain⟨i,y,h1,h2,h3,m1,hg,hf⟩:=Qts hc k hno;obtain⟨s1,s2,s3⟩:=QvA hg;obtain⟨e,b,O,hR,_⟩:=Qrh hg ⟨n,c,k⟩;have hcnt:∀f:Int->Xj->O_ (QF×Qz),(bif k.Do==4 then(PJ y.Batch).bind λx=>f x.1 x.2 else bif k.Do==2 then(Nb y.Batch).bind λx=>f x.1 x.2 else(Nc y.Batch).bind λx=>f x.1 x.2)=f e b:=λf=>by
  unfold DC at O;simp only at O;cases h4:(k.Do==4)<;>cases h5:(k.Do==2)<;>simp only[h4,h5,Qr,Qe]at O ⊢<;>obtain⟨q,q1,q2⟩:=QI O<;>rw[q1]<;>cases q2<;>rfl
 unfold Dn;rw[QcS hm,h1,hf,Qa,Qa,Qn (by omega),Qe,QG,h2,Qa,ND,Qn hd5,Qcq,Qr,s1,s2,s3,hcnt λe b=>AS c k n y e b];show _=((DC ⟨n,c,k⟩ y.Batch).bind λx20=>YB ⟨n,c,k⟩ x20.1 ⟨y.Id,y.Mode,x20.2,y.Until⟩).bind _;rw[O,Qa];unfold AS YB;cases hz:(e != 0)with
 |true=>
  unfold YO Ig;simp only[Qr,Qa,hz]
 |false=>
  obtain⟨w,hw⟩:∃w,BU b=C w:=by
   unfold BU PL Qaj;rw[Vd];cases decide (RB b)<;>exact⟨_,rfl⟩
  simp only[Qe];rw[QbE,QvB,hw];cases KU b with
  |none=>rfl|some ov=>
   cases ov with
   |false=>
    show Gf c k n f_ w ⟨y.Id,y.Mode,b,y.Until⟩=((US c.Items ⟨y.Id,y.Mode,b,y.Until⟩).bind _).bind _;unfold Gf;rw[Qcq,Qr,Qrr hc (x:=⟨y.Id,y.Mode,b,y.Until⟩) m1,<-h3];cases US c.Items ⟨y.Id,y.Mode,b,y.Until⟩<;>rfl
   |true=>
    show Gf c k n t_ w ⟨y.Id,y.Mode,b,y.Until⟩=_;rw[Qup h hr hc k (p:=⟨y.Id,y.Mode,b,y.Until⟩) m1 h3 w];cases w<;>rfl
def Qr7 (h:QT n)(hr:RN n)(hc:Kb n c)(k:Xt)(hd5:k.Do=5):Dn n c k=(DE ⟨n,c,k⟩).bind λr=>C (Ig c r):=by
 have hm:=Bt hc;unfold DE;by_cases O:∀y∈c.Items,y.Id≠k.Id
 ·obtain⟨e,z,h0,h1,h2⟩:=Quq hc k O;have hz:(e != 0)=t_:=by simpa using h0
  unfold Ig;rw[h1,h2,Qa];simp only[hz,Qr,Qa]
 obtain⟨i,y,h1,h2,h3,m1,hg,hf⟩:=Qts hc k O;unfold Dn;rw[QcS hm,h1,hf,Qa,Qa,Qn (by omega),Qe,QG,h2,Qa,ND,Ql hd5,Jq,Qe,Qup h hr hc k m1 h3 f_];rfl
def QvE (h:QT n)(hr:RN n)(hc:Kb n c)(k:Xt)(O:Xv n k.Mode)(hR:Yb n c.M k.Mode=C 0->Bh n c.M k.Mode 64=WF n c.M k.Mode 64):SZ n c k=(Gm ⟨n,c,k⟩).bind λr=>C (Ig c r):=by
 have hml:=hc.g.1.len h (by decide);obtain⟨x,hx,_⟩:=QaH n c.M k.Mode h hml O;unfold SZ Gm YO;simp only;rw[QcR h hr hml O,hx];simp only[Qa];cases hz:(x != 0)with
 |true=>unfold Ig;simp only[Qr,Qa,hz]|false=>
  have:x=0:=by simpa using hz
  subst this;rw[Qe,Qe,hR hx];cases WF n c.M k.Mode 64 with
  |none=>rfl|some q=>
   simp only[Qa];cases q != 1 with
   |true=>rfl|false=>
    rw[Qe,Qe];cases idx n.Tasks k.Mode.Task with
    |none=>rfl|some t=>
     simp only[Qa];rw[Qt3];cases Cw t.Many k.Num with
     |none=>rfl|some s=>
      simp only[Qa];cases hs:(s.1 != 0)with
      |true=>unfold Ig;simp only[Qr,Qa,hs]|false=>
       rw[Qe,Qe];cases decide (64<=(c.Items.length:Int))with
       |true=>rfl|false=>
        rw[Qe,Qe];cases c.Next==1099511627776 with
        |true=>rfl|false=>
         obtain⟨need,M,hN,hJ,hT⟩:=Qyl h hc.g O hx;rw[Qe,Qe,Qrp h hr (c:=1024) (by omega) hc.g.1 O,hT,Qa];have k1:∀l:Qm,l.Id=c.Next->l.Mode=k.Mode->CK c (M,0) l=(Kr ⟨n,c,k⟩ l).bind λr=>C (Ig c r):=λl hi hl=>by
          unfold CK Kr;simp only;rw[hT,Qrr hc (x:=l) (by rw[hl];exact O),hi];cases US c.Items l<;>rfl
         cases decide (0<t.After)with|true=>exact k1 _ rfl rfl|false=>exact k1 _ rfl rfl
def Qym {σ τ ρ ρ':Type}{b1:σ->O_ (σ⊕ρ)}{b2:τ->O_ (τ⊕ρ')}(g:σ->τ)(f:ρ->ρ')(n:Nat)(I:Nat->σ->Prop)(he:∀i s,I i s->b2 (g s)=(b1 s).map (Sum.map g f))(hn:∀i s O,I i s->b1 s=C (.inl O)->i<n/\I (i+1) O):∀s0,I 0 s0->Qq b2 (g s0)=(Qq b1 s0).map f:=by
 have key:∀(k i:Nat) s,n<=i+k->I i s->Qq b2 (g s)=(Qq b1 s).map f:=by
  intro k
  induction k with
  |zero=>
   intro i s hk hI;rw[Yl,Yl (body:=b1),he i s hI];cases hb:b1 s with
   |none=>rfl|some o=>
    cases o with|inr r=>rfl|inl O=>have:=(hn i s O hI hb).1;omega
  |succ k ih=>
   intro i s hk hI;rw[Yl,Yl (body:=b1),he i s hI];cases hb:b1 s with
   |none=>rfl|some o=>
    cases o with|inr r=>rfl|inl O=>exact ih (i+1) O (by omega) (hn i s O hI hb).2
 exact λs0 h=>key n 0 s0 (by omega) h
def Qrs (h:QT n)(k:Xt){ds:LI_}(hn:ds.Nodup)(hi:∀d∈ds,∃x∈c.Items,x.Id=d){M:L_ Bag}(i1:i<ds.length)(hC:Kb n ⟨M,(ds.take i).foldl dropL c.Items,c.Next,c.Now+1⟩):
  ∃(p:Nat) (y:Qm) (e:Int) (v:QR),KR ((ds.take i).foldl dropL c.Items) ds[i]=C (p:Int)/\((ds.take i).foldl dropL c.Items)[p]? = C y/\Xv n y.Mode/\YA ⟨n,⟨M,(ds.take i).foldl dropL c.Items,c.Next,c.Now+1⟩,k⟩ y=C (e,v)/\(e=0->∃O,Kb n ⟨O,(ds.take (i+1)).foldl dropL c.Items,c.Next,c.Now+1⟩/\v=⟨n,⟨O,(ds.take (i+1)).foldl dropL c.Items,c.Next,c.Now+1⟩,k⟩):=by
 have hx:=Qv i1;obtain⟨x,x1,x2⟩:=hi ds[i] (Xc i1);have x3:x∈(ds.take i).foldl dropL c.Items:=QjZ.2 ⟨x1,λhm=>by
  rw[x2]at hm;obtain⟨j,hj,e⟩:=Ej.1 hm;rw[Kv]at hj;rw[Qct]at e;exact absurd e ((QeD.1 (List.nodup_iff_pairwise_ne.1 hn)) j i (by omega) i1 (by omega))⟩
 obtain⟨p,y,f1,f2,f3⟩:=Qfx (Bt hC) x3 x2;obtain⟨m1,m2⟩:=hC.f y (XB f2);obtain⟨e,v,hv,hv0⟩:=Qfz h hC k (p:=y) m1;refine⟨p,y,e,v,f1,f2,m1,hv,λhz=>?_⟩;obtain⟨O,g1,g2,rfl⟩:=hv0 hz;have e1:(ds.take (i+1)).foldl dropL c.Items=dropL ((ds.take i).foldl dropL c.Items) y.Id:=by
  rw[JY,hx,List.foldl_append,f3];rfl
 exact⟨O,by rw[e1];exact hC.drop g2 _,by rw[e1]⟩
def Qw8 (h:QT n)(hr:RN n)(hc:Kb n c)(k:Xt):Ph n c=(Ef ⟨n,c,k⟩).bind λr=>C (Ig c r):=by
 have hl:=hc.len;have n2:=hc.n2;have mx:(80:Nat)<=maxLen:=by decide
 obtain⟨u1,u2⟩:=Lm.1 hc.up;unfold Ph Ef;simp only;rw[Sd];by_cases c1:c.Now=1099511627776
 ·rw[Ql c1];rfl
 rw[Qn c1,Qe,Qe,Xb (by omega),Qw6 (by omega)];obtain⟨ds,hds,hn,hi,hdl⟩:=QwP u1 (by omega) (c.Now+1);rw[hds,Qa,Qa];have hC0:Kb n ⟨c.M,c.Items,c.Next,c.Now+1⟩:=⟨hc.g,hc.n1,⟨by show 0<=c.Now+1;omega,by show c.Now+1<=_;omega⟩,hc.up,hc.len,hc.f⟩;have hL:=Qym (b1:=λst=>YS ds st.1 st.2) (b2:=λst=>Ho ds n c st.1 st.2) (λs=>(s.1,s.2.now)) (Sum.map (λq=>Ig c (q.1,⟨0,0,[]⟩,q.2)) (λv=>v.now)) ds.length (λi s=>s.1=(i:Int)/\∃M,Kb n ⟨M,(ds.take i).foldl dropL c.Items,c.Next,c.Now+1⟩/\s.2=⟨n,⟨M,(ds.take i).foldl dropL c.Items,c.Next,c.Now+1⟩,k⟩)
  (λi s hI=>by
   obtain⟨x,v⟩:=s;obtain⟨hx,M,hC,hv⟩:=hI;replace hx:x=(i:Int):=hx;replace hv:v=_:=hv;subst hx hv;show Ho ds n c i ⟨M,(ds.take i).foldl dropL c.Items,c.Next,c.Now+1⟩=(YS ds i ⟨n,⟨M,(ds.take i).foldl dropL c.Items,c.Next,c.Now+1⟩,k⟩).map _;unfold Ho YS;by_cases i1:i<ds.length
   ·obtain⟨p,y,e,v,f1,f2,m1,hv,_⟩:=Qrs h k hn (λd hd=>by obtain⟨x,h1,h2,_⟩:=(hi d).1 hd;exact⟨x,h1,h2⟩) i1 hC;rw[Ql (by omega),Qr,Qr,QG,Wy i1];simp only[Qa];have hF:=QcS (id:=ds[i]) (Bt hC);simp only at hF;rw[hF,f1];simp only[Qa];rw[QG,f2];simp only[Qa];rw[QlA h hr hC k m1 f_,Qe,hv];simp only[Qa];cases hz:(e != 0)with|true=>simp only[Qr,Gq,Sum.map_inr,Sum.map_inl];unfold YO Ig;simp only[hz,Qr,Qa]|false=>rfl
   rw[Qn (by omega)];rfl)
  (λi s s' hI O=>by
   obtain⟨x,v⟩:=s;obtain⟨hx,M,hC,hv⟩:=hI;replace hx:x=(i:Int):=hx;replace hv:v=_:=hv;subst hx hv;replace O:YS ds i ⟨n,⟨M,(ds.take i).foldl dropL c.Items,c.Next,c.Now+1⟩,k⟩=C (.inl s'):=O;unfold YS at O;by_cases i1:i<ds.length
   ·obtain⟨p,y,e,v,f1,f2,m1,hv,hv0⟩:=Qrs h k hn (λd hd=>by obtain⟨x,h1,h2,_⟩:=(hi d).1 hd;exact⟨x,h1,h2⟩) i1 hC;rw[Ql (by omega),Qr,QG,Wy i1,Qa]at O;simp only at O;rw[f1,Qa,QG,f2,Qa,hv,Qa,ND]at O;by_cases e0:e=0
    ·simp only[Ql e0,Jq,Qe]at O;cases O;obtain⟨M',q1,q2⟩:=hv0 e0;exact⟨i1,Qo i1 (by omega),M',q1,q2⟩
    simp only[Qn e0,Qcq,Qr]at O;cases O
   rw[Qn (by omega),Qe]at O;cases O)
  (0,⟨n,⟨c.M,c.Items,c.Next,c.Now+1⟩,k⟩) ⟨rfl,c.M,hC0,rfl⟩
 replace hL:Qq (λst=>Ho ds n c st.1 st.2) (0,(⟨c.M,c.Items,c.Next,c.Now+1⟩:QF))=_:=hL;rw[hL];cases Qq (λst=>YS ds st.1 st.2) (0,⟨n,⟨c.M,c.Items,c.Next,c.Now+1⟩,k⟩)with|none=>rfl|some q=>cases q<;>rfl
def Qw9 (h:QT n)(hr:RN n)(hc:Kb n c)(k:Xt)(hk:Xv n k.Mode)(hR:Yb n c.M k.Mode=C 0->Bh n c.M k.Mode 64=WF n c.M k.Mode 64):QcJ n c k=Nd n c k:=by
 have hL:=QhW (hc.lens h);have hE:=Qrg h hc;unfold QcJ Nd;rw[Qt2 (hc.lens h),Qa,Qw5 h hr hc,Qa,Jq,Qe,hL,Qa];unfold FY WX FL;simp only[Sd];have fin:∀x:O_ (Int×Qz×QR),((x.bind λr=>C (Ig c r)).bind λx13=>C (x13.1,x13.2))=x.bind λO=>bif (O.1 != 0)then(YN c).bind λx20=>C (x20,(⟨O.1,0,[]⟩:Qz))else C (O.2.2.now,O.2.1):=λx=>by
  cases x with
  |none=>rfl|some r=>
   rw[hL];unfold Ig;simp only[Qa];cases r.1 != 0<;>rfl
 have ins:k.Do≠5->((Dn n c k).bind λx16=>C (x16.1,x16.2))=IL n c c k ():=λhd5=>by
  unfold IL;rw[hE,Qa,Jq,Qe,Qw7 h hr hc k hd5,fin]
 by_cases d1:k.Do=1
 ·rw[Ql d1,Qr];show _=IM n c c k ();unfold IM;rw[hE,Qa,Jq,Qe,QvE h hr hc k hk hR,fin]
 rw[Qn d1,Qe,Qe];by_cases d2:k.Do=2
 ·rw[Ql d2];exact ins (by omega)
 rw[Qn d2,Qe,Qe];by_cases d3:k.Do=3
 ·rw[Ql d3];exact ins (by omega)
 rw[Qn d3,Qe,Qe];by_cases d4:k.Do=4
 ·rw[Ql d4];exact ins (by omega)
 rw[Qn d4,Qe,Qe];by_cases d5:k.Do=5
 ·rw[Ql d5];show((Dn n c k).bind λx16=>C (x16.1,x16.2))=IN n c c k ();unfold IN;rw[hE,Qa,Jq,Qe,Qr7 h hr hc k d5,fin]
 rw[Qn d5,Qe,Qe];by_cases d6:k.Do=6
 ·rw[Ql d6];show((Ph n c).bind λO=>C (O.1,O.2))=IP n c c k ();unfold IP;rw[hE,Qa,Jq,Qe,Qw8 h hr hc k,fin]
 rw[Qn d6];show _=IQ c ();unfold IQ;rw[hL];rfl
def QvF {c':QF}{k:Xt}{a:Qz}(O:Kb n c)(hE:Eff n c k c' a):a.Closed.length<=64:=by
 obtain⟨u1,u2⟩:=Lm.1 O.up;have hl:=O.len;cases hE with
 |start x e need M h hx hm he hu hN hT=>exact Ii _|keep x y h hy hx=>exact Ii _|shut y M h hy hB hk=>show 1<=64;omega|tick ds M h hn hI hD=>
  have:=Qri u1 hn hI;show ds.length<=64;omega
def Qyn (H:EOk n)(hr:RN n)(rd:∀{c:QF} {k:Xt},Kb n c->Xv n k.Mode->Bh n c.M k.Mode 64=WF n c.M k.Mode 64)(O:Kb n c){l:L_ Xt}(hl:l.length<=24)(hk:∀k∈l,Xv n k.Mode):∃c' out,IR n c l=C (out,c')/\Qbe n c l=C (out,c')/\Kb n c'/\out.length<=24/\∀a∈out,a.Closed.length<=64:=by
 have mx:(24:Nat)<=maxLen:=by decide
 have main:Qg (Qq (λst:Int×QF×L_ Qz=>WO l n st.1 st.2.1 st.2.2) (0,c,([]:L_ Qz))) λq=>Kb n q.1/\q.2.length<=24/\∀a∈q.2,a.Closed.length<=64:=by
  refine Qg.up l.length (λst:Int×QF×L_ Qz=>st.1) (λst:Int×QF×L_ Qz=>Kb n st.2.1/\(st.2.2.length:Int)=st.1/\∀a∈st.2.2,a.Closed.length<=64) rfl ⟨O,rfl,λa h=>by cases h⟩ (λi st hi hn2 hJ=>?_);obtain⟨x,c,L⟩:=st;replace hi:x=(i:Int):=hi;subst hi;obtain⟨O,h1,h2⟩:Kb n c/\(L.length:Int)=(i:Int)/\∀a∈L,a.Closed.length<=64:=hJ;show Qg (WO l n i c L) _;unfold WO;refine T1 (λhlt=>?_) (λhlt=>T2 (Qp ⟨O,by show L.length<=24;omega,h2⟩));simp only[Qw]at hlt;have i1:i<l.length:=by omega
  obtain⟨c',a,hD,hc',hE,_⟩:=QyG H O l[i] (hk _ (Xc i1));rw[QG,Wy i1,Qa,hD,Qa,Yv (by simp;omega),Qa];have hw:=Qo i1 (by omega);refine T2 (QH ⟨i1,hw,hc',by show((L++[a]).length:Int)=Qh _;rw[hw,YZ,FO];push_cast;omega,λb hb=>?_⟩);rcases YT.1 hb with hb|hb
  ·exact h2 b hb
  rw[LA]at hb;subst hb;rcases hE with⟨_,_,_,e4⟩|hE
  ·rw[e4];exact Ii _
  exact QvF O hE
 have same:Qq (λst:Int×QF×L_ Qz=>Ri l n st.1 st.2.1 st.2.2) (0,c,([]:L_ Qz))=Qq (λst:Int×QF×L_ Qz=>WO l n st.1 st.2.1 st.2.2) (0,c,([]:L_ Qz)):=by
  refine QbF l.length (λi st=>st.1=(i:Int)/\Kb n st.2.1) (λi st hI=>?_) (λi st s' hI hs=>?_) _ ⟨rfl,O⟩
  ·obtain⟨x,c,L⟩:=st;obtain⟨hx,O⟩:=hI;replace hx:x=(i:Int):=hx;replace O:Kb n c:=O;subst hx;show Ri l n i c L=WO l n i c L;unfold Ri WO;by_cases i1:i<l.length
   ·have hm:=hk _ (Xc i1);rw[QG,Wy i1,Qa,Qa,Qw9 H.h hr O l[i] hm λ_=>rd O hm]
   rw[Qn (by omega)];rfl
  obtain⟨x,c,L⟩:=st;obtain⟨hx,O⟩:=hI;replace hx:x=(i:Int):=hx;replace O:Kb n c:=O;subst hx;replace hs:WO l n i c L=C (.inl s'):=hs;unfold WO at hs;by_cases i1:i<l.length
  ·obtain⟨c',a,hD,hc',_⟩:=QyG H O l[i] (hk _ (Xc i1));rw[Ql (by omega),Qr,QG,Wy i1,Qa,hD,Qa]at hs;obtain⟨_,_,hs⟩:=QI hs;cases hs;exact⟨i1,Qo i1 (by omega),hc'⟩
  rw[Qn (by omega),Qe]at hs;cases hs
 obtain⟨⟨c',out⟩,q1,q2,q3,q4⟩:=main;refine⟨c',out,?_,?_,q2,q3,q4⟩
 ·unfold IR;rw[QhW (O.lens H.h),Qa,q1];rfl
 unfold Qbe;rw[same,q1];rfl
def Qtt {l:L_ Qz}(hl:l.length<=maxLen)(h:∀a∈l,a.Closed.length<=maxLen):Ov l l=C t_:=by
 have O:Qg (Qq (λst=>Hq l l st) 0) λq=>q=.inr ():=by
  refine Qg.up l.length (λst=>st) (λ_=>True) rfl trivial (λj st hj hn2 hJ=>?_);replace hj:st=(j:Int):=hj;subst hj;show Qg (Hq l l j) _;unfold Hq;refine T1 (λhc=>?_) (λ_=>T2 (Qp rfl));simp only[Qw]at hc;have i1:j<l.length:=by omega
  unfold QbB;simp only[QG,Wy i1,Qa,ND,decide_true,Jq,Qe];rw[Quo _ _ (h _ (Xc i1)),Ql rfl];exact T2 (QH ⟨i1,Qo i1 hl,trivial⟩)
 obtain⟨q,q1,rfl⟩:=O;unfold Ov;rw[ND,Ql rfl,Jq,Qe,q1];rfl
def Yg : Nat->Int->LI_
 |0,_=>[]|k+1,x=>IntKind.u8.wrap (Wd .i64 x (Qh (8*(k:Int))))::Yg k x
def Wq (k:Nat)(x:Int):(Yg k x).length=k:=by
 induction k with|zero=>rfl|succ k h=>simp[Yg,h]
def QqN {α β:Type}{f:α->L_ β}{c:Nat}:∀{l:L_ α},(∀x∈l,(f x).length=c)->(l.flatMap f).length=l.length*c:=by
 intro l
 induction l with
 |nil=>intro _;simp|cons x l ih=>
  intro h;have h1:=ih λy O=>h y (Ys _ O);have h2:=h x Yc;rw[Ay,YZ,WI,Nat.succ_mul];omega
def Qyo (e:Int)(h:Nat)(O:LI_)(hs:h<=8)(hl:O.length+h<=4294967296):Qq (λst=>Cs e st.1 st.2) ((Qh ((h:Int)-1)),O)=C (O++Yg h e):=by
 obtain⟨r,h1,h2⟩:=(Qg.up (body:=λst:Int×LI_=>Cs e st.1 st.2) h (λst=>(h:Int)-1-st.1) (λst=>-1<=st.1/\st.2.length+(st.1+1).toNat=O.length+h/\st.2++Yg (st.1+1).toNat e=O++Yg h e) (Q:=λq:LI_=>q=O++Yg h e) (s0:=((Qh ((h:Int)-1)),O))
  (by show(h:Int)-1-Qh ((h:Int)-1)=0;rw[Xb (by omega)];omega) (by
   show -1<=Qh ((h:Int)-1)/\O.length+(Qh ((h:Int)-1)+1).toNat=_/\O++Yg (Qh ((h:Int)-1)+1).toNat e=_;rw[Xb (by omega),show((h:Int)-1+1).toNat=h by omega];exact⟨by omega,rfl,rfl⟩) (λi st hi hn hJ=>by
   obtain⟨k,l⟩:=st;replace hi:(h:Int)-1-k=(i:Int):=hi;obtain⟨j0,j1,j2⟩:-1<=k/\l.length+(k+1).toNat=O.length+h/\l++Yg (k+1).toNat e=O++Yg h e:=hJ;show Qg (Cs e k l) _;unfold Cs;refine T1 (λhc=>?_) (λhc=>T2 (Qp ?_))
   ·simp only[Qw]at hc;have hw:Qh (8*k)=8*k:=Xb (by omega);have hw2:Qh (k-1)=k-1:=Xb (by omega);have e1:(k+1).toNat=k.toNat+1:=by omega
    refine T0 (T5 (by rw[hw];simp only[Qw];omega)) λ_ _=>?_;refine T0 (T5 (by simp;omega)) λ_ _=>?_;refine T2 (QH ⟨by omega,by show(h:Int)-1-Qh (k-1)=_;rw[hw2];omega,?_⟩);show -1<=Qh (k-1)/\(l++[_]).length+(Qh (k-1)+1).toNat=_/\(l++[_])++Yg (Qh (k-1)+1).toNat e=_;rw[hw2,show(k-1+1).toNat=k.toNat by omega];rw[e1,Yg,show((k.toNat:Nat):Int)=k by omega]at j2;refine⟨by omega,by simp;omega,?_⟩;rw[Kh];exact j2
   simp only[QU]at hc;rw[show(k+1).toNat=0 by omega,Yg,Qcr]at j2;exact j2))
 rw[h1,h2]
def Qtu (O:LI_)(h:Nat)(l:LI_)(hs:h<=8)(hl:O.length+8*l.length<=4294967296):FB O h l=C (O++l.flatMap (Yg h)):=by
 unfold FB;obtain⟨r,h1,h2⟩:=(Qg.up (body:=λst:Int×LI_=>LH l h st.1 st.2) l.length (λst=>st.1) (λst=>st.2=O++(l.take st.1.toNat).flatMap (Yg h)) (Q:=λq:LI_=>q=O++l.flatMap (Yg h)) (s0:=((0:Int),O)) rfl (by simp) (λi st hi hn hJ=>by
  obtain⟨x,a⟩:=st;replace hi:x=(i:Int):=hi;subst hi;replace hJ:a=O++(l.take (i:Int).toNat).flatMap (Yg h):=hJ;rw[XM]at hJ;show Qg (LH l h i a) _;unfold LH;refine T1 (λhc=>?_) (λhc=>T2 (Qp ?_))
  ·simp only[Qw]at hc;have i1:i<l.length:=by omega
   have hlen:a.length=O.length+i*h:=by
    rw[hJ,YZ,QqN (c:=h) λx _=>Wq h x,Kv,OB (by omega)]
   have hm:i*h<=i*8:=Nat.mul_le_mul_left i hs;rw[QG,Qv i1,Qa,Qyo _ h a hs (by omega),Qa];unfold Qdq;have hw:Qh ((i:Int)+1)=((i+1:Nat):Int):=Qo i1 (by unfold maxLen;omega:l.length<=maxLen);refine T2 (QH ⟨i1,hw,?_⟩);show a++Yg h l[i]=O++(l.take (Qh ((i:Int)+1)).toNat).flatMap (Yg h);rw[hw,XM,JY,Qv i1,hJ,Qj8,Kh];simp
  simp only[QU]at hc;rw[hJ,YV (by omega)]))
 rw[h1,h2];rfl
def Qzy (h:Nat)(l:LI_):QbL h l=FB [] h l:=rfl
def ZH (b:Bag):LI_:=Yg 2 b.length++b.flatMap λp=>Yg 4 p.1++Yg 4 p.2
def Qkq (m:L_ Bag):LI_:=Yg 1 m.length++m.flatMap ZH
def QnD (b:Bag):(ZH b).length=2+8*b.length:=by
 unfold ZH;rw[YZ,Wq,QqN (c:=8) λx _=>by simp[Wq]];omega
def Qxa {m:L_ Bag}(h:QT n)(hg:XL n m)(hml:m.length<=64):FC m=C (Qkq m,0):=by
 unfold FC;rw[Qn (by omega),Qe,show(1:Int)=((1:Nat):Int)from rfl,Qzy,Qtu [] 1 _ (by omega) (by simp),Qa];have hb:∀b∈m,Rt b/\b.length<=1024:=hg.1.2;have hmem:∀b∈m,∀p∈b,p.1<=1024:=λb hb' p hp=>by
  obtain⟨j,hj,rfl⟩:=Ej.1 hb';have hj2:j<n.Places.length:=by have:=hg.1.1;omega
  have hr:=(hb _ hb').1;have h2:=Eh hr.1.nd hp;have h3:=(hr.2 _ hp).2.1;obtain⟨z,hz,hk⟩:=hg.2 j _ _ (Qv hj) (Qv hj2) p.1 (by rw[h2];omega);have:=WG (KW _ _ h.k.1) hz;omega
 have lens:∀i,i<=m.length->((m.take i).flatMap ZH).length<=i*8194:=λi hi=>by
  have:=Qej (f:=ZH) (c:=8194) (l:=m.take i) λb hb'=>by
   have:=(hb b (FQ hb')).2;rw[QnD];omega
  rw[Kv,OB hi]at this;exact this
 obtain⟨r,h1,h2⟩:=(Qg.up (body:=λst:Int×LI_=>LJ m st.1 st.2) m.length (λst=>st.1) (λst=>st.2=Yg 1 m.length++(m.take st.1.toNat).flatMap ZH) (Q:=λq:Unit⊕LI_=>q=.inr (Qkq m)) (s0:=((0:Int),[]++[(m.length:Int)].flatMap (Yg 1))) rfl (by simp) (λi st hi hn hJ=>by
  obtain⟨x,a⟩:=st;replace hi:x=(i:Int):=hi;subst hi;replace hJ:a=Yg 1 m.length++(m.take (i:Int).toNat).flatMap ZH:=hJ;rw[XM]at hJ;show Qg (LJ m i a) _;unfold LJ;refine T1 (λhc=>?_) (λhc=>T2 (Qp ?_))
  ·simp only[Qw]at hc;have i1:i<m.length:=by omega
   have hbm:=Xc i1;have hr:=(hb _ hbm).1;have hrl:=(hb _ hbm).2;have hal:a.length<=1+i*8194:=by
    have:=lens i (by omega);rw[hJ,YZ,Wq];omega
   rw[QG,Qv i1,Qa];have g1:Ts m[i]=C f_:=by
    unfold Ts;rw[ZD _ (by unfold maxLen;omega),Qa,Jo.2 hr];simp only[Jq,Qe];rw[Qn (by omega),Qe];by_cases c0:(m[i]).length=0
    ·rw[Qn (by omega)];rfl
    have O:(m[i]).length-1<(m[i]).length:=by omega
    rw[Ql (by omega),Qr,Xb (by omega),show((m[i]).length:Int)-1=(((m[i]).length-1:Nat):Int) by omega,QG,Qv O,Qa];have:=hmem _ hbm _ (Xc O);rw[Qn (by omega)]
   rw[g1,Qa];unfold Qdt;rw[Qe,show(2:Int)=((2:Nat):Int)from rfl,Qtu a 2 _ (by omega) (by simp;omega),Qa];have inner:Qg (Qq (λst=>LI m[i] st.1 st.2) ((0:Int),a++[((m[i]).length:Int)].flatMap (Yg 2))) λq:LI_=>q=a++ZH m[i]:=by
    refine Qg.up (m[i]).length (λst=>st.1) (λst=>st.2=a++(Yg 2 (m[i]).length++((m[i]).take st.1.toNat).flatMap λp=>Yg 4 p.1++Yg 4 p.2)) rfl (by simp) (λk st hk hn2 hK=>?_);obtain⟨x,c⟩:=st;replace hk:x=(k:Int):=hk;subst hk;replace hK:c=a++(Yg 2 (m[i]).length++((m[i]).take (k:Int).toNat).flatMap λp=>Yg 4 p.1++Yg 4 p.2):=hK;rw[XM]at hK;show Qg (LI m[i] k c) _;unfold LI;refine T1 (λhc2=>?_) (λhc2=>T2 (Qp ?_))
    ·simp only[Qw]at hc2;have k1:k<(m[i]).length:=by omega
     have hcl:c.length=a.length+2+k*8:=by
      rw[hK,YZ,YZ,Wq,QqN (c:=8) λx _=>by simp[Wq],Kv,OB (by omega)];omega
     rw[QG,Qv k1,Qa,show(4:Int)=((4:Nat):Int)from rfl,Qtu c 4 _ (by omega) (by simp;omega),Qa];have hw:Qh ((k:Int)+1)=((k+1:Nat):Int):=Qo k1 (by unfold maxLen;omega:(m[i]).length<=maxLen);refine T2 (QH ⟨k1,hw,?_⟩);show c++[(m[i])[k].1,(m[i])[k].2].flatMap (Yg 4)=a++(Yg 2 (m[i]).length++((m[i]).take (Qh ((k:Int)+1)).toNat).flatMap λp=>Yg 4 p.1++Yg 4 p.2);rw[hw,XM,JY,Qv k1,hK,Qj8];simp
    simp only[QU]at hc2;rw[hK,YV (by omega)];rfl
   obtain⟨q,hq1,rfl⟩:=inner;rw[hq1,Qa];unfold Qds;have hw:Qh ((i:Int)+1)=((i+1:Nat):Int):=Qo i1 (by unfold maxLen;omega:m.length<=maxLen);refine T2 (QH ⟨i1,hw,?_⟩);show a++ZH m[i]=Yg 1 m.length++(m.take (Qh ((i:Int)+1)).toNat).flatMap ZH;rw[hw,XM,JY,Qv i1,hJ,Qj8,Kh];simp
  simp only[QU]at hc;rw[hJ,YV (by omega)];rfl))
 rw[h1,h2];rfl
def XO (m:L_ Bag):ByteArray:=NL (if m.length<=64 then Qkq m else [])
def QpC {m:L_ Bag}(h:QT n)(O:XL n m):IG m=C (XO m):=by
 unfold IG XO;by_cases c:m.length<=64
 ·rw[Qxa h O c,if_pos c];rfl
 rw[if_neg c];unfold FC;rw[Ql (by omega)];rfl
def WS (n:Qc)(w:Int)(x:L_ Bag)(o:Qd):O_ (L_ Bag):=if o.Task=w then none else match YP n x o with
 |some (y,c)=>if c=0 then C y else none
 |none=>none
def Ht (n:Qc)(w:Int)(x:L_ Bag):L_ (L_ Bag):=(KB n x).filterMap (WS n w x)
def Qxb {x y:L_ Bag}(h:WS n w x o=C y):o.Task≠w/\YP n x o=C (y,0):=by
 unfold WS at h;split at h
 ·cases h
 rename_i c;refine⟨c,?_⟩;cases e:YP n x o with
 |none=>rw[e]at h;cases h
 |some r=>
  obtain⟨a,b⟩:=r;rw[e]at h;simp only at h;split at h
  ·rename_i O;cases h;rw[O]
  cases h
def Qxc {x:L_ Bag}(h:QT n)(O:XL n x):∀y∈Ht n w x,XL n y:=λy hy=>by
 obtain⟨o,ho,he⟩:=List.mem_filterMap.1 hy;exact QgS h O (QgR h (O.len h) ho) (Qxb he).2
def FM (mm:L_ (ByteArray×Bool))(l:L_ (L_ Bag)):Prop:=∀k,(Xg mm k).getD f_=l.any λy=>decide (XO y=k)
def FM.add {mm:L_ (ByteArray×Bool)}{l:L_ (L_ Bag)}(h:FM mm l)(x:L_ Bag):FM (YQ TX mm (XO x) t_) (l++[x]):=λk=>by
 rw[BX,List.any_append];by_cases c:k=XO x
 ·subst c;rw[if_pos rfl];simp
 rw[if_neg c,h k];have:decide (XO x=k)=f_:=Qn λe=>c e.symm;simp[this]
def Xi (budget:Int):Nat:=(min2 (max2 0 budget) 4096).toNat
def QgT (budget:Int):(Xi budget:Int)=min2 (max2 0 budget) 4096/\Xi budget<=4096:=by
 unfold Xi min2 max2;split<;>split<;>omega
def Hu (n:Qc)(w budget:Int)(m:L_ Bag):L_ (L_ Bag)×Bool:=if Xi budget=0 then([],f_)else Uq XO (Ht n w) (Xi budget) (Xi budget+1) [m] 0
def QvG {m:L_ Bag}(w budget:Int)(h:QT n)(hb:Bd n)(hg:XL n m):PM n m w budget=C (Hu n w budget m):=by
 have hm:=QgT budget;have hpl:=h.pl;unfold PM Hu;by_cases c0:Xi budget=0
 ·rw[if_pos c0,show(min2 (max2 0 budget) 4096==0)=t_ by rw[<-hm.1,c0];rfl];rfl
 rw[if_neg c0,show(min2 (max2 0 budget) 4096==0)=f_ by simp;omega];simp only[Qe];have hm1:=hg.1.1;rw[QpC h hg,Qa,Lk m (by omega) (λb hb=>by have:=(hg.1.2 b hb).2;omega),Qa];generalize hR:Uq XO (Ht n w) (Xi budget) (Xi budget+1) [m] 0=R;have main:Qg (Qq (λst=>HV n w budget st.1 st.2.1 st.2.2) ((0:Int),(YQ TX ([]:QSB) (XO m) t_),[m])) λq:L_ (L_ Bag)⊕L_ (L_ Bag)=>(∀l,q=.inl l->R=(l,f_))/\∀l,q=.inr l->R=(l,t_):=by
  refine Qg.up (Xi budget) (λst=>st.1) (λst=>FM st.2.1 st.2.2/\(∀x∈st.2.2,XL n x)/\st.2.2.length<=Xi budget/\Uq XO (Ht n w) (Xi budget) (Xi budget+1-st.1.toNat) st.2.2 st.1.toNat=R) rfl ⟨?_,?_,?_,hR⟩ (λi st hi hn hJ=>?_)
  ·exact FM.add (mm:=[]) (l:=[]) (λk=>rfl) m
  ·intro x hx;simp at hx;subst hx;exact hg
  ·show 1<=_;omega
  obtain⟨a,mm,l⟩:=st;replace hi:a=(i:Int):=hi;subst hi;obtain⟨j1,j2,j3,j4⟩:FM mm l/\(∀x∈l,XL n x)/\l.length<=Xi budget/\Uq XO (Ht n w) (Xi budget) (Xi budget+1-(i:Int).toNat) l (i:Int).toNat=R:=hJ;rw[XM,show Xi budget+1-i=(Xi budget-i)+1 by omega,Uq]at j4;show Qg (HV n w budget i mm l) _;unfold HV;refine T1 (λhc=>?_) (λhc=>T2 (Qp ⟨λl' e=>(by cases e),λl' e=>?_⟩))
  ·simp only[Qw]at hc;have i1:i<l.length:=by omega
   have hx:=Qv i1;have hgx:=j2 _ (Xc i1);rw[QG,hx,Qa];rw[hx]at j4;simp only at j4;generalize l[i]=x at hx hgx j4 ⊢;have hal:=QqI x h hb;rw[Qnu n x 9223372036854775807 h (hgx.len h) (by omega) (by omega) (.inr (by omega)),Qa];have hxl:=hgx.len h;have e0:(KB n x).take (9223372036854775807:Int).toNat=KB n x:=YV (by omega);rw[e0];have hok:=λo=>QgR (o:=o) h hxl;have inner:Qg (Qq (λst=>HU (KB n x) w i n budget st.1 st.2.1 st.2.2) ((0:Int),mm,l)) λq:L_ (L_ Bag)⊕(L_ (ByteArray×Bool)×L_ (L_ Bag))=>
     (∀o,q=.inl o->Jp XO (Xi budget) l (Ht n w x)=.inl o)/\∀O o,q=.inr (O,o)->Jp XO (Xi budget) l (Ht n w x)=.inr o/\FM O o/\(∀x∈o,XL n x)/\o.length<=Xi budget:=by
    generalize hT:Jp XO (Xi budget) l (Ht n w x)=T;have hT:Jp XO (Xi budget) l ((KB n x).filterMap (WS n w x))=T:=hT;generalize KB n x=X at hT hal hok ⊢;refine Qg.up X.length (λst=>st.1) (λst=>FM st.2.1 st.2.2/\(∀x∈st.2.2,XL n x)/\st.2.2.length<=Xi budget/\st.2.2[i]? = C x/\Jp XO (Xi budget) st.2.2 ((X.drop st.1.toNat).filterMap (WS n w x))=T) rfl ⟨j1,j2,j3,hx,hT⟩ (λk st hk hn2 hK=>?_);obtain⟨a,mm,l⟩:=st;replace hk:a=(k:Int):=hk;subst hk;obtain⟨k1,k2,k3,k4,k5⟩:FM mm l/\(∀x∈l,XL n x)/\l.length<=Xi budget/\l[i]? = C x/\Jp XO (Xi budget) l ((X.drop (k:Int).toNat).filterMap (WS n w x))=T:=hK;rw[XM]at k5;show Qg (HU X w i n budget k mm l) _;unfold HU;refine T1 (λhc2=>?_) (λhc2=>T2 (Qp ⟨λo e=>(by cases e),λO o e=>?_⟩))
    ·simp only[Qw]at hc2;have i2:k<X.length:=by omega
     have hw:Qh ((k:Int)+1)=((k+1:Nat):Int):=Qo i2 (by unfold maxLen;omega:X.length<=maxLen);have next:∀O l',FM O l'->(∀x∈l',XL n x)->l'.length<=Xi budget->l'[i]? = C x->Jp XO (Xi budget) l' ((X.drop (k+1)).filterMap (WS n w x))=T->
       Qg (ES k O l') λo=>(∀s',o=.inl s'->k<X.length/\s'.1=((k+1:Nat):Int)/\FM s'.2.1 s'.2.2/\(∀x∈s'.2.2,XL n x)/\s'.2.2.length<=Xi budget/\s'.2.2[i]? = C x/\Jp XO (Xi budget) s'.2.2 ((X.drop s'.1.toNat).filterMap (WS n w x))=T)/\
        ∀r:L_ (L_ Bag)⊕(L_ (ByteArray×Bool)×L_ (L_ Bag)),o=.inr r->(∀o,r=.inl o->T=.inl o)/\∀O o,r=.inr (O,o)->T=.inr o/\FM O o/\(∀x∈o,XL n x)/\o.length<=Xi budget:=λO l' f1 f2 f3 f4 f5=>by
      unfold ES;refine T2 (QH (ix:=λst:Int×L_ (ByteArray×Bool)×L_ (L_ Bag)=>st.1) (J:=λst:Int×L_ (ByteArray×Bool)×L_ (L_ Bag)=>FM st.2.1 st.2.2/\(∀x∈st.2.2,XL n x)/\st.2.2.length<=Xi budget/\st.2.2[i]? = C x/\Jp XO (Xi budget) st.2.2 ((X.drop st.1.toNat).filterMap (WS n w x))=T) ⟨i2,hw,f1,f2,f3,f4,?_⟩);show Jp XO (Xi budget) l' ((X.drop (Qh ((k:Int)+1)).toNat).filterMap (WS n w x))=T;rw[hw,XM];exact f5
     rw[QG,Qv i2,Qa];rw[NE i2,List.filterMap_cons]at k5;have hox:=hok _ (Xc i2);generalize X[k]=o at k5 hox ⊢;refine T1 (λhc3=>?_) λhc3=>?_
     ·have:WS n w x o=none:=by unfold WS;rw[if_pos (by simpa using hc3)]
      rw[this]at k5;exact next mm l k1 k2 k3 k4 k5
     simp only[beq_eq_false_iff_ne]at hc3;rw[QG,k4,Qa];obtain⟨⟨y,c⟩,hD,_⟩:=Qvd n x o 1024 h hgx.1 (by omega) hox;rw[hD,Qa];by_cases cc:c=0
     ·subst cc;have hgy:=QgS h hgx hox hD;have:WS n w x o=C y:=by unfold WS;rw[if_neg hc3,hD];rfl
      rw[this]at k5;simp only at k5;rw[Jp]at k5;unfold RO;simp only[show((0:Int) != 0)=f_ from rfl,Qe];rw[QpC h hgy,Qa,k1 (XO y),Qa];unfold RP;refine T1 (λhh=>?_) λhh=>?_
      ·rw[if_pos (show Qne XO l y=t_ from hh)]at k5;exact next mm l k1 k2 k3 k4 k5
      rw[if_neg (by rw[show Qne XO l y=f_ from hh];decide)]at k5;refine T1 (λhf=>?_) λhf=>?_
      ·simp only[beq_iff_eq]at hf;rw[if_pos (by omega)]at k5;exact T2 (Qp ⟨λo e=>(by cases e;exact k5.symm),λO o e=>by cases e⟩)
      simp only[beq_eq_false_iff_ne]at hf;rw[if_neg (by omega)]at k5;simp only;rw[QpC h hgy,Qa];refine T0 (T5 (by simp;omega)) λ_ _=>?_;refine next _ _ (k1.add y) (λz hz=>?_) (by simp;omega) (by rw[Jh ((Xf.1 k4).1)];exact k4) k5;rcases YT.1 hz with hz|hz
      ·exact k2 z hz
      simp at hz;subst hz;exact hgy
     have:WS n w x o=none:=by unfold WS;rw[if_neg hc3,hD];simp only;rw[if_neg cc]
     rw[this]at k5;unfold RO;simp only[show(c != 0)=t_ by simpa using cc,Qr,Qa];unfold RP;exact next mm l k1 k2 k3 k4 k5
    cases e;simp only[QU]at hc2;rw[Qj7 (by omega),List.filterMap_nil,Jp]at k5;exact⟨k5.symm,k1,k2,k3⟩
   obtain⟨q,hq1,hq2,hq3⟩:=inner;rw[hq1,Qa];rcases q with q|⟨O,o⟩
   ·have:=hq2 q rfl;rw[this]at j4;show Qg (RQ q) _;unfold RQ;exact T2 (Qp ⟨λl' e=>(by cases e;exact j4.symm),λl' e=>by cases e⟩)
   obtain⟨f1,f2,f3,f4⟩:=hq3 O o rfl;rw[f1]at j4;simp only at j4;show Qg (RS i O o) _;unfold RS;have hw:Qh ((i:Int)+1)=((i+1:Nat):Int):=Qo (by omega:i<Xi budget) (by unfold maxLen;omega);refine T2 (QH ⟨by omega,hw,f2,f3,f4,?_⟩);show Uq XO (Ht n w) (Xi budget) (Xi budget+1-(Qh ((i:Int)+1)).toNat) o (Qh ((i:Int)+1)).toNat=R;rw[hw,XM,show Xi budget+1-(i+1)=Xi budget-i by omega];exact j4
  cases e;simp only[QU]at hc;rw[SA (by omega)]at j4;exact j4.symm
 obtain⟨q,hq1,hq2,hq3⟩:=main;rw[hq1,Qa];rcases q with q|q
 ·rw[hq2 q rfl];rfl
 rw[hq3 q rfl];rfl
def Rp {j:Nat}(h:j<l.length):l.toArray[j]! = l[j]:=by
 rw[getElem!_pos l.toArray j (by simpa using h)];simp
def Qrt (h:x∈EE l):x∈l:=by
 unfold EE Lib.compact Lib.compactUpTo at h;obtain⟨j,O,rfl⟩:=Yt.1 h;have:=CU.1 (FP.1 O).1;rw[Rp this];exact Xc this
def Qru (h:l.Pairwise (·<=·)):(EE l).Pairwise (·<·):=by
 have hp:=QeD.1 h;unfold EE Lib.compact Lib.compactUpTo;rw[QaY,List.pairwise_filter,QeD];intro i j hi hj hij _ O;rw[QeC]at hi hj;rw[Qcs]at O;rw[Qcs,Qcs,Rp hi,Rp hj];unfold Lib.keeps at O;have O:=Xe O;rcases O with O|O
 ·omega
 have hj1:j-1<l.length:=by omega
 rw[Rp hj,Rp hj1]at O;have h1:=hp (j-1) j hj1 hj (by omega);by_cases c:i=j-1
 ·subst c;omega
 have h2:=hp i (j-1) hi hj1 (by omega);omega
def Qtv (l:LI_):(El l).Pairwise (·<=·):=Qls l
def Qrv:x∈El l↔x∈l:=by
 exact(Qhr l).mem_iff
def Pq (m:L_ Bag)(k:Int):Prop:=0<=k/\k<m.length/\m[k.toNat]? = C []
def QvH (n:Qc)(m:L_ Bag)(task:Int)(h:QT n):Qg (DD n m task) λe=>(∀k∈e,Pq m k)/\e.Pairwise (·<·):=by
 unfold DD;refine T1 (λ_=>T2 ⟨λk h=>(by cases h),List.Pairwise.nil⟩) λhc=>?_;simp only[Ku,QU]at hc;refine T0 (T4 (by omega) (by omega)) λe he=>?_;have hil:=(h.tk e he).2.1;refine T0 (Qg.up e.Ins.length (λst=>st.1) (λst=>(st.2.length:Int)<=st.1/\∀k∈st.2,Pq m k) (Q:=λq:LI_=>q.length<=16/\∀k∈q,Pq m k) rfl ⟨by simp,λk h=>by cases h⟩ (λi st hi hn hJ=>?_)) (λq hq=>?_)
 ·obtain⟨x,l⟩:=st;replace hi:x=(i:Int):=hi;subst hi;obtain⟨j1,j2⟩:(l.length:Int)<=(i:Int)/\∀k∈l,Pq m k:=hJ;show Qg (Bp e m i l) _;unfold Bp;refine T1 (λhc2=>?_) (λhc2=>T2 (Qp ⟨by omega,j2⟩));simp only[Qw]at hc2;have i1:i<e.Ins.length:=by omega
  have hw:Qh ((i:Int)+1)=((i+1:Nat):Int):=Qo i1 (by unfold maxLen;omega:e.Ins.length<=maxLen);rw[QG,Qv i1,Qa];refine T0 (P:=λy=>y=t_->Pq m (e.Ins[i]).Place) ?_ λy hy=>?_
  ·unfold RL;refine T1 (λc1=>?_) λ_=>T2 λh=>by cases h
   refine T1 (λc2=>?_) λ_=>T2 λh=>by cases h
   simp only[Qw]at c1 c2;have O:(e.Ins[i]).Place.toNat<m.length:=by omega
   rw[DO c1,Qv O,Qa];refine T2 λhz=>⟨c1,c2,?_⟩;simp only[beq_iff_eq]at hz;rw[Qv O,HO.1 (show(m[(e.Ins[i]).Place.toNat]).length=0 by omega)]
  unfold RM Bo;refine T1 (λc1=>?_) λ_=>?_
  ·refine T0 (T5 (by simp;omega)) λ_ _=>?_;refine T2 (QH ⟨i1,hw,by show((l++[_]).length:Int)<=Qh _;rw[hw];simp;omega,λk O=>?_⟩);rcases YT.1 O with O|O
   ·exact j2 k O
   simp at O;subst O;exact hy c1
  exact T2 (QH ⟨i1,hw,by show(l.length:Int)<=Qh _;rw[hw];omega,j2⟩)
 obtain⟨q1,q2⟩:=hq;show Qg (Bq q) _;unfold Bq;rw[QhP _ (by omega),Qa];refine T0 (T5 (by simp[EX])) λ_ _=>?_;unfold EH;rw[Yv (by rw[EX];omega),Qa,Qa];exact T2 ⟨λk O=>q2 k (Qrv.1 (Qrt O)),Qru (Qtv q)⟩
def Ln (n:Qc)(m:L_ Bag)(h:Int):LI_:=(DD n m h).getD []
def Qtw (n:Qc)(m:L_ Bag)(O:Int)(h:QT n):DD n m O=C (Ln n m O)/\(∀k∈Ln n m O,Pq m k)/\(Ln n m O).Pairwise (·<·):=by
 obtain⟨e,h1,h2⟩:=QvH n m O h;unfold Ln;rw[h1];exact⟨rfl,h2⟩
def Fs (e:LI_)(x:L_ Bag):Bool:=e.any λk=>decide (0<(((x[k.toNat]?).getD []).length:Int))
def QAA (e:LI_)(x:L_ Bag)(he:e.length<=maxLen)(hk:∀k∈e,0<=k/\k<x.length):Wk e x=C (Fs e x):=by
 unfold Wk Ud;obtain⟨q,h1,h2⟩:=(Qg.up (body:=λst=>Wj e x st) e.length (λst=>st) (λst=>Fs (e.take st.toNat) x=f_) (Q:=λq:Int⊕Unit=>(∀j,q=.inl j->0<=j/\Fs e x=t_)/\(q=.inr ()->Fs e x=f_)) (s0:=(0:Int)) rfl rfl (λi st hi hn hJ=>by
  replace hi:st=(i:Int):=hi;subst hi;replace hJ:Fs (e.take (i:Int).toNat) x=f_:=hJ;rw[XM]at hJ;show Qg (Wj e x i) _;unfold Wj Tw;refine T1 (λhc=>?_) (λhc=>T2 (Qp ⟨λj e=>(by cases e),λ_=>?_⟩))
  ·simp only[Qw]at hc;have i1:i<e.length:=by omega
   have h:=Xc i1;obtain⟨k1,k2⟩:=hk _ h;have hkk:(e[i]).toNat<x.length:=by omega
   rw[QG,Qv i1,Qa,DO k1,Qv hkk];simp only[Qa];have O:decide (0<(((x[(e[i]).toNat]?).getD []).length:Int))=decide (0<((x[(e[i]).toNat]).length:Int)):=by rw[Qv hkk];rfl
   refine T1 (λhc2=>T2 (Qp ⟨λj e'=>(by cases e';exact⟨by omega,Aw.2 ⟨_,h,by rw[O];exact hc2⟩⟩),λe=>by cases e⟩)) λhc2=>?_;have hw:Qh ((i:Int)+1)=((i+1:Nat):Int):=Qo i1 he;refine T2 (QH ⟨i1,hw,?_⟩);show Fs (e.take (Qh ((i:Int)+1)).toNat) x=f_;rw[hw,XM,JY,Qv i1];unfold Fs at hJ ⊢;rw[List.any_append,hJ];simp only[Option.toList_some,List.any_cons,List.any_nil,Vk,Qco];rw[O];exact hc2
  simp only[QU]at hc;rwa[YV (by omega)]at hJ))
 rw[h1];rcases q with q|q
 ·have:=h2.1 q rfl;rw[this.2];simp only[Qa,Sum.elim_inl];unfold Cv;rw[Qa,Ql this.1]
 rw[h2.2 rfl];rfl
def QpD {m:L_ Bag}(w budget:Int)(h:QT n)(hg:XL n m):(∀x∈(Hu n w budget m).1,XL n x)/\(Hu n w budget m).1.length<=Xi budget/\Tb XO (Hu n w budget m).1/\(0<Xi budget->∃r,(Hu n w budget m).1=m::r):=by
 unfold Hu;by_cases c0:Xi budget=0
 ·rw[if_pos c0];exact⟨λx h=>(by cases h),by simp,List.Pairwise.nil,λh=>by omega⟩
 rw[if_neg c0];obtain⟨⟨r,hr⟩,h2,h3,h4⟩:=Qwt (key:=XO) (succ:=Ht n w) (P:=XL n) (λx O=>Qxc h O) (most:=Xi budget) (Xi budget+1) (out:=[m]) (a:=0) (by simp;omega) (Qka _ _) λx O=>by simp at O;subst O;exact hg
 exact⟨h4,h2,h3,λ_=>⟨r,hr⟩⟩
def Qsh (n:Qc)(m:L_ Bag)(h budget:Int):Int:=if (Hu n h budget m).1.any (Fs (Ln n m h))then 0 else if (Hu n h budget m).2 then 1 else 2
def Qyp {m:L_ Bag}(O budget:Int)(h:QT n)(hb:Bd n)(hg:XL n m):PO n m O budget=C (Qsh n m O budget):=by
 have hpl:=h.pl;obtain⟨e1,e2,e3⟩:=Qtw n m O h;obtain⟨r1,r2,_,_⟩:=QpD O budget h hg;have hmost:=(QgT budget).2;have hm1:=hg.1.1;unfold PO Qsh;rw[e1,Qa,QvG O budget h hb hg,Qa];have hel:(Ln n m O).length<=maxLen:=by
  unfold DD at e1;have:∀(l:LI_) (a b:Int),l.Pairwise (·<·)->(∀k∈l,a<=k/\k<b)->(l.length:Int)<=max 0 (b-a):=by
   intro l
   induction l with
   |nil=>intro a b _ _;simp;omega|cons x l ih=>
    intro a b hp hk;obtain⟨p1,p2⟩:=Bu.1 hp;have h1:=hk x Yc;have:=ih (x+1) b p2 λk hk2=>⟨by have:=p1 k hk2;omega,(hk k (Ys _ hk2)).2⟩;simp only[WI];omega
  have:=this _ 0 (m.length:Int) e3 λk hk=>⟨(e2 k hk).1,(e2 k hk).2.1⟩;unfold maxLen;omega
 have hbk:∀x∈(Hu n O budget m).1,∀k∈Ln n m O,0<=k/\k<x.length:=λx hx k hk=>by
  have h1:=e2 k hk;have h2:=(r1 x hx).1.1;exact⟨h1.1,by have:=h1.2.1;omega⟩
 generalize Hu n O budget m=R at r1 r2 hbk ⊢;generalize Ln n m O=E at hel hbk ⊢;obtain⟨q,h1,h2⟩:=(Qg.up (body:=λst:LI_×Int=>HW R st.1 st.2) R.1.length (λst=>st.2) (λst=>st.1=E/\(R.1.take st.2.toNat).any (Fs E)=f_) (Q:=λq:Unit⊕Unit=>(q=.inl ()->R.1.any (Fs E)=t_)/\(q=.inr ()->R.1.any (Fs E)=f_)) (s0:=(E,(0:Int))) rfl ⟨rfl,rfl⟩ (λi st hi hn hJ=>by
  obtain⟨a,x⟩:=st;replace hi:x=(i:Int):=hi;subst hi;obtain⟨j1,j2⟩:a=E/\(R.1.take (i:Int).toNat).any (Fs E)=f_:=hJ;subst j1;rw[XM]at j2;show Qg (HW R a i) _;unfold HW;refine T1 (λhc=>?_) (λhc=>T2 (Qp ⟨λe=>(by cases e),λ_=>?_⟩))
  ·simp only[Qw]at hc;have i1:i<R.1.length:=by omega
   have hmem:=Xc i1;rw[QG,Qv i1,Qa,QAA a _ hel (hbk _ hmem),Qa];refine T1 (λhc2=>T2 (Qp ⟨λ_=>Aw.2 ⟨_,hmem,hc2⟩,λe=>by cases e⟩)) λhc2=>?_;have hw:Qh ((i:Int)+1)=((i+1:Nat):Int):=Qo i1 (by unfold maxLen;omega:R.1.length<=maxLen);refine T2 (QH ⟨i1,hw,rfl,?_⟩);show(R.1.take (Qh ((i:Int)+1)).toNat).any (Fs a)=f_;rw[hw,XM,JY,Qv i1,List.any_append,j2];simpa using hc2
  simp only[QU]at hc;rwa[YV (by omega)]at j2))
 rw[h1,Qa];rcases q with q|q
 ·rw[h2.1 rfl];rfl
 rw[h2.2 rfl];show RT R=_;unfold RT;cases R.2<;>rfl
def Qj4 (n:Qc)(m:L_ Bag)(o:Qd)(budget:Int):Int:=if Yb n m o=C 0 then(match idx n.Tasks o.Task with
 |some e=>if e.Join=3 then Qsh n m o.Task budget else 1
 |none=>0)else 0
def QpE {m:L_ Bag}(h:QT n)(hm:QV (QV λ_=>True) m)(ho:Xv n o)(hc:Yb n m o=C 0):∃e,idx n.Tasks o.Task=C e/\e∈n.Tasks:=by
 obtain⟨_,e,O,_,_,_,b,hb,_⟩:=Av.1 ((Vc h hm ho).1 hc);obtain⟨k1,k2,_⟩:=BP h hb;rw[O]at k1;cases k1;exact⟨_,O,k2⟩
def QnE {m:L_ Bag}(o:Qd)(budget:Int)(h:QT n)(hb:Bd n)(hg:XL n m)(ho:Xv n o):WF n m o budget=C (Qj4 n m o budget):=by
 unfold WF Qj4;obtain⟨c,hc,_⟩:=QaH n m o h (hg.len h) ho;rw[hc,Qa];by_cases c0:c=0
 ·subst c0;obtain⟨e,he,_⟩:=QpE h (hg.len h) ho hc;rw[if_pos rfl,he];simp only[show((0:Int) != 0)=f_ from rfl,Qe,Qa];by_cases O:e.Join=3
  ·rw[if_pos O,show(e.Join != 3)=f_ by simpa using O,Qe,Qyp o.Task budget h hb hg];rfl
  rw[if_neg O,show(e.Join != 3)=t_ by simpa using O];rfl
 rw[if_neg (λe=>c0 (Option.some.inj e)),show(c != 0)=t_ by simpa using c0];rfl
def Qyq (n:Qc)(m:L_ Bag)(budget:Int)(hn:Xu n)(hm:QV (QV λ_=>True) m):Qg (OY n m budget) λr=>r=t_->QT n/\Bd n/\XL n m/\budget<=12:=by
 unfold OY;refine T0 (QAj n m hn hm).self λf O=>?_;obtain⟨hfe,O⟩:=O;refine T0 (P:=λr=>r=t_->QT n/\Bd n/\XL n m/\budget<=12) ?_ λr hr=>?_
 ·unfold Zk;refine T1 (λc1=>?_) λ_=>T2 λh=>by cases h
  refine T1 (λc2=>?_) λ_=>T2 λh=>by cases h
  refine T1 (λc3=>?_) λ_=>T2 λh=>by cases h
  obtain⟨h,g1,g2⟩:=O c1;subst c1;rw[Qii h g1 (by omega),Qa];exact T2 λ_=>⟨h,Qy9 n m h hfe,⟨g1,g2⟩,by simpa using c2⟩
 unfold Qe1;exact T2 hr
def QyJ (x:Int):IntKind.u8.wrap x=x % 256:=rfl
def QcX (k:Nat)(x:Int)(h:k<8):IntKind.u8.wrap (Wd .i64 x (Qh (8*(k:Int))))=(x / (2 ^ (8*k):Nat)) % 256:=by
 rw[QyJ,Xb (by omega)];unfold Wd;rw[show(8*(k:Int)).toNat=8*k by omega,show min (8*k) (IntKind.bits .i64)=8*k from OB (by show 8*k<=64;omega),Int.fdiv_eq_ediv_of_nonneg _ (Int.pow_nonneg (by omega))];simp
def Qtx (x:Int):Yg 2 x=[x / 256 % 256,x % 256]:=by
 simp only[Yg,QcX 0 x (by omega),QcX 1 x (by omega)];simp
def Qty (x:Int):Yg 4 x=[x / 16777216 % 256,x / 65536 % 256,x / 256 % 256,x % 256]:=by
 simp only[Yg,QcX 0 x (by omega),QcX 1 x (by omega),QcX 2 x (by omega),QcX 3 x (by omega)];simp
def QA8 {y:Int}(O:0<=x/\x<65536)(hy:0<=y/\y<65536)(h:Yg 2 x=Yg 2 y):x=y:=by
 rw[Qtx,Qtx]at h;simp only[List.cons.injEq,and_true]at h;omega
def QyK {y:Int}(O:0<=x/\x<4294967296)(hy:0<=y/\y<4294967296)(h:Yg 4 x=Yg 4 y):x=y:=by
 rw[Qty,Qty]at h;simp only[List.cons.injEq,and_true]at h;omega
def Qh2 (hk:k<=8):∀b∈Yg k x,0<=b/\b<256:=by
 induction k with
 |zero=>intro b h;cases h
 |succ k O=>
  intro b h;rcases XP.1 h with rfl|h
  ·rw[QyJ];omega
  exact O (by omega) b h
def QvI (p:Int×Int):LI_:=Yg 4 p.1++Yg 4 p.2
def Qtz (p:Int×Int):(QvI p).length=8:=by simp[QvI,Wq]
def InP (p:Int×Int):Prop:=(0<=p.1/\p.1<4294967296)/\0<=p.2/\p.2<4294967296
def Qyr : ∀(a b:Bag),a.length=b.length->(∀p∈a,InP p)->(∀p∈b,InP p)->a.flatMap QvI=b.flatMap QvI->a=b:=by
 intro a
 induction a with
 |nil=>intro b h _ _ _;exact(HO.1 (by simpa using h.symm)).symm|cons p a ih=>
  intro b h ha hb e;cases b with
  |nil=>simp at h|cons q b=>
   rw[Ay,Ay]at e;obtain⟨e1,e2⟩:=List.append_inj e (by rw[Qtz,Qtz]);obtain⟨e3,e4⟩:=List.append_inj e1 (by rw[Wq,Wq]);have hp:=ha p Yc;have hq:=hb q Yc;have f1:=QyK hp.1 hq.1 e3;have f2:=QyK hp.2 hq.2 e4;rw[Prod.ext f1 f2,ih b (by simpa using h) (λr O=>ha r (Ys _ O)) (λr O=>hb r (Ys _ O)) e2]
def InB (b:Bag):Prop:=b.length<65536/\∀p∈b,InP p
def Qys : ∀(a b:L_ Bag),a.length=b.length->(∀x∈a,InB x)->(∀x∈b,InB x)->a.flatMap ZH=b.flatMap ZH->a=b:=by
 intro a
 induction a with
 |nil=>intro b h _ _ _;exact(HO.1 (by simpa using h.symm)).symm|cons x a ih=>
  intro b h ha hb e;cases b with
  |nil=>simp at h|cons y b=>
   have hx:=ha x Yc;have hy:=hb y Yc;rw[Ay,Ay]at e;have e':=e;unfold ZH at e';rw[Kh,Kh]at e';have e1:=(List.append_inj e' (by rw[Wq,Wq])).1;have O:=QA8 (x:=(x.length:Int)) (y:=(y.length:Int)) ⟨by omega,by have:=hx.1;omega⟩ ⟨by omega,by have:=hy.1;omega⟩ e1;have O:x.length=y.length:=by omega
   obtain⟨f1,f2⟩:=List.append_inj e (by rw[QnD,QnD,O]);have f3:=(List.append_inj f1 (by rw[Wq,Wq])).2;rw[Qyr x y O hx.2 hy.2 f3,ih b (by simpa using h) (λr hr=>ha r (Ys _ hr)) (λr hr=>hb r (Ys _ hr)) f2]
def QpF (l:LI_):(NL l).data.toList=l.map λx=>UInt8.ofNat x.toNat:=by
 unfold NL;have:∀(l:LI_) (r:ByteArray),(l.foldl (λr n=>r.push (UInt8.ofNat n.toNat)) r).data.toList=r.data.toList++l.map λx=>UInt8.ofNat x.toNat:=by
  intro l
  induction l with|nil=>intro r;simp|cons x l h=>intro r;rw[List.foldl_cons,h];simp[ByteArray.push]
 rw[this];rfl
def Qxd {a b:LI_}(ha:∀x∈a,0<=x/\x<256)(hb:∀x∈b,0<=x/\x<256)(h:NL a=NL b):a=b:=by
 have e:(a.map λx=>UInt8.ofNat x.toNat)=b.map λx=>UInt8.ofNat x.toNat:=by rw[<-QpF,<-QpF,h]
 clear h
 induction a generalizing b with
 |nil=>cases b with|nil=>rfl|cons y b=>simp at e
 |cons x a ih=>cases b with
  |nil=>simp at e|cons y b=>
   simp only[GC,List.cons.injEq]at e;have h1:=ha x Yc;have h2:=hb y Yc;have e1:=congrArg UInt8.toNat e.1;rw[UInt8.toNat_ofNat',UInt8.toNat_ofNat']at e1;have:x=y:=by omega
   rw[this,ih (λz O=>ha z (Ys _ O)) (λz O=>hb z (Ys _ O)) e.2]
def QtA (m:L_ Bag):∀x∈Qkq m,0<=x/\x<256:=by
 intro x h;unfold Qkq at h;rcases YT.1 h with h|h
 ·exact Qh2 (by omega) x h
 obtain⟨b,_,h⟩:=List.mem_flatMap.1 h;unfold ZH at h;rcases YT.1 h with h|h
 ·exact Qh2 (by omega) x h
 obtain⟨p,_,h⟩:=List.mem_flatMap.1 h;rcases YT.1 h with h|h
 ·exact Qh2 (by omega) x h
 exact Qh2 (by omega) x h
def Qur {m:L_ Bag}(h:QT n)(O:XL n m):∀b∈m,InB b:=λb hb=>by
 obtain⟨hr,hl⟩:=O.1.2 b hb;refine⟨by omega,λp hp=>?_⟩;have h1:=hr.2 p hp;obtain⟨j,hj,rfl⟩:=Ej.1 hb;have hj2:j<n.Places.length:=by have:=O.1.1;omega
 have h2:=Eh hr.1.nd hp;obtain⟨z,hz,hk⟩:=O.2 j _ _ (Qv hj) (Qv hj2) p.1 (by rw[h2];omega);have:=WG (KW _ _ h.k.1) hz;exact⟨⟨h1.1,by omega⟩,by omega,by omega⟩
def Qzz {a b:L_ Bag}(h:QT n)(hp:n.Places.length<=64)(O:XL n a)(hb:XL n b)(e:XO a=XO b):a=b:=by
 have ha1:=O.1.1;have hb1:=hb.1.1;unfold XO at e;rw[if_pos (by omega),if_pos (by omega)]at e;have e:=Qxd (QtA a) (QtA b) e;unfold Qkq at e;exact Qys a b (by omega) (Qur h O) (Qur h hb) (List.append_inj e (by rw[Wq,Wq])).2
end Go.Proofs
