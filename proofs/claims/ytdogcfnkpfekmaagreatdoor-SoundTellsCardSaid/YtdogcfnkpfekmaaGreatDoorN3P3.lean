/- A part of the proof. -/
import Derived.Test.YtdogcfnkpfekmaaGreatDoorN3P2
import Derived.Test.YtdogcfnkpfekmaaGreatDoorN3P1
import Derived.Test.YtdogcfnkpfekmaaGreatDoorN3P2
import Derived.Test.YtdogcfnkpfekmaaGreatDoorN3P2
import Derived.Test.YtdogcfnkpfekmaaGreatDoorN3P2
import Derived.Test.YtdogcfnkpfekmaaGreatDoorN3P2
import Derived.Test.YtdogcfnkpfekmaaGreatDoorN3P1
import Derived.Test.YtdogcfnkpfekmaaGreatDoorN3T2
import Derived.KernelRfl
set_option linter.all false
noncomputable section
namespace Go.Proofs
open Go Go.RowKit Go.Vm
open Option renaming some→C
variable {i k c:Nat}{b:QBg}{n:Qd}{env:LI_}{o:Qc}{m y a:L_ Bag}{l:L_ (L_ Bag)}{e:QF}{most O x w:Int}{p:Int×Int}
def WX {α:Type}{l:L_ α}(h:i<l.length):l.take (i+1)=l.take i++[l[i]]:=by rw[UF,Qp h];rfl
def QcV {l:QBg}{x:Int×Int}:GW (l++[x])↔GW l/\∀p∈l,p.1<x.1:=by
 unfold GW;rw[Qfz];constructor
 ·rintro ⟨h,_,O⟩;exact⟨h,λp hp=>O p hp x (by simp)⟩
 rintro ⟨h,O⟩;exact⟨h,by simp,λp hp q hq=>by simp at hq;subst hq;exact O p hp⟩
def Qrj (h:GW b)(hi:i<b.length):∀p∈b.take i,p.1<b[i].1:=by
 have:=h.sublist (List.take_sublist (i+1) b);rw[WX hi]at this;exact(QcV.1 this).2
def HL (h:b.length<=maxLen):Jk b=C (Ek (-1) b):=by
 unfold Jk;obtain⟨r,hr,h1⟩:=JC (body:=λst:Int=>KK b st) b.length (λi s=>s=(i:Int)/\Rt (b.take i)) (λr=>r=bif Ek (-1) b then .inr ()else .inl ()) (λi s hi O=>by
  obtain⟨rfl,O⟩:=O;have hx:b[i]? = C b[i]:=Qp hi;show(∃s',KK b i=_/\_)\/∃r,KK b i=_/\_;unfold KK So Sq;rw[Qt (by omega),Ql,Qs,hx];simp only[Qa];have stop:¬Rt b->∃r:Unit⊕Unit,C (Sum.inr (Sum.inl ()))=(C (Sum.inr r):O_ (Int⊕(Unit⊕Unit)))/\r=bif Ek (-1) b then .inr ()else .inl ():=λhb=>by
   rw[<-YV,HN]at hb;rw[hb];exact⟨_,rfl,rfl⟩
  have hm:=Xn hi;by_cases c1:b[i].1<0
  ·rw[Qt c1];exact .inr (stop λhb=>by have:=hb.2 _ hm;omega)
  rw[Qz c1,Qi];by_cases c2:b[i].2<1
  ·rw[Qt c2];exact .inr (stop λhb=>by have:=hb.2 _ hm;omega)
  rw[Qz c2,Qi];by_cases c3:1048576<b[i].2
  ·rw[Qt c3];exact .inr (stop λhb=>by have:=hb.2 _ hm;omega)
  rw[Qz c3,Qi];have go:(∀p∈b.take i,p.1<b[i].1)->Rt (b.take (i+1)):=λhp=>by
   rw[WX hi];refine⟨QcV.2 ⟨O.1,hp⟩,λp hp=>?_⟩;rcases XU.1 hp with hp | hp
   ·exact O.2 p hp
   simp at hp;subst hp;omega
  by_cases c4:0<i
  ·rw[Qt (by omega:(0:Int)<(i:Int)),Ql,Xh (n:=(i:Int)-1) (by unfold maxLen at h;omega),show(i:Int)-1=((i-1:Nat):Int) by omega,Qs,Qp (show i-1<b.length by omega)];simp only[Qa];by_cases c5:b[i].1<=(b[i-1]'(by omega)).1
   ·rw[Qt c5];exact .inr (stop λhb=>by
     have:=Qa7.1 hb.1 (i-1) i (by omega) hi (by omega);omega)
   rw[Qz c5];refine .inl ⟨_,rfl,Qj hi h,go λp hp=>?_⟩;obtain⟨j,hj,rfl⟩:=Ct.1 hp;rw[KX]at hj;rw[List.getElem_take];by_cases hji:j=i-1
   ·subst hji;omega
   have:=Qa7.1 O.1 j (i-1) (by simp;omega) (by simp;omega) (by omega);rw[List.getElem_take,List.getElem_take]at this;omega
  ·rw[Qz (by omega:¬(0:Int)<(i:Int)),Qi];refine .inl ⟨_,rfl,Qj hi h,go λp hp=>?_⟩;rw[show i=0 by omega]at hp;cases hp) (λs O=>by
  obtain⟨rfl,O⟩:=O;rw[UG]at O;refine⟨_,?_,rfl⟩;show KK b (b.length:Int)=_;unfold KK;rw[Qz (by omega),YV.2 O];rfl) 0 ⟨rfl,Rt.nil⟩
 rw[hr,h1];cases Ek (-1) b<;>rfl
def Qis (h:b.length<=maxLen)(hb:Rt b)(m:Int):Ci b m=C (QH b m):=by
 unfold Ci;rw[HL h,YV.2 hb,Qa];obtain⟨r,hr,h1⟩:=JC (body:=λst:Int=>Gk b true m st) b.length (λi s=>s=(i:Int)/\∀p∈b.take i,p.1≠m) (λr=>r=.inl (QH b m)\/(r=.inr ()/\QH b m=0)) (λi s hi O=>by
  obtain⟨rfl,O⟩:=O;have hx:b[i]? = C b[i]:=Qp hi;show(∃s',Gk b true m i=_/\_)\/∃r,Gk b true m i=_/\_;unfold Gk;rw[Qt (by omega),UD,Ql,Qs,hx];simp only[Qa];by_cases e:b[i].1=m
  ·rw[show(b[i].1==m)=true by simpa using e];refine .inr ⟨_,rfl,.inl ?_⟩;rw[<-e,ET hb.1.nd (Xn hi)]
  ·rw[show(b[i].1==m)=false by simpa using e];refine .inl ⟨_,rfl,Qj hi h,λp hp=>?_⟩;rw[WX hi]at hp;rcases XU.1 hp with hp | hp
   ·exact O p hp
   simp at hp;subst hp;exact e) (λs O=>by
  obtain⟨rfl,O⟩:=O;rw[UG]at O;refine⟨.inr (),?_,.inr ⟨rfl,?_⟩⟩
  ·show Gk b true m (b.length:Int)=_;unfold Gk;rw[Qz (by omega)];rfl
  unfold QH;rw[OP.2 O];rfl) 0 ⟨rfl,λp hp=>by cases hp⟩
 rw[hr];rcases h1 with rfl | ⟨rfl,e⟩
 ·rfl
 rw[e];rfl
def Qrk (h:b.length<=4294967295)(hb:Rt b){m n:Int}(hm:0<=m)(hn:0<=n/\n<=1048576):∃r,Np b m n=C r/\Rt r/\(∀k,QH r k=if k=m then n else QH b k)/\r.length<=b.length+1:=by
 have hl:b.length<=maxLen:=by unfold maxLen;omega
 unfold Np;obtain⟨⟨dn,out⟩,hr,h1,h2,h3,h4⟩:=JC (body:=λst:Bool×Int×QBg=>UR b m n st.1 st.2.1 st.2.2) b.length
  (λi s=>s.2.1=(i:Int)/\(s.1=true↔∃p∈b.take i,m<=p.1)/\GW s.2.2/\(∀p,p∈s.2.2↔(p.1≠m/\p∈b.take i)\/(s.1=true/\0<n/\p=(m,n)))/\s.2.2.length<=i+(bif s.1 then 1 else 0))
  (λr=>(r.1=true↔∃p∈b,m<=p.1)/\GW r.2/\(∀p,p∈r.2↔(p.1≠m/\p∈b)\/(r.1=true/\0<n/\p=(m,n)))/\r.2.length<=b.length+(bif r.1 then 1 else 0)) (λi s hi hI=>by
   obtain⟨d,a,out⟩:=s;obtain⟨h1,h2,h3,h4,h5⟩:=hI;replace h1:a=(i:Int):=h1;subst h1;replace h2:d=true↔∃p∈b.take i,m<=p.1:=h2;replace h3:GW out:=h3;replace h4:∀p,p∈out↔(p.1≠m/\p∈b.take i)\/(d=true/\0<n/\p=(m,n)):=h4;replace h5:out.length<=i+(bif d then 1 else 0):=h5;have hx:b[i]? = C b[i]:=Qp hi;have hup:=Qrj hb.1 hi;left;show ∃s',UR b m n d i out=_/\_;unfold UR QdB QdC Mw;rw[Qt (by omega),Ql];have own:∀(d':Bool) (O:QBg),(d'=true↔∃p∈b.take (i+1),m<=p.1)->GW O->(∀p,p∈O↔(p.1≠m/\p∈b.take i)\/(d'=true/\0<n/\p=(m,n)))->O.length<=i+(bif d' then 1 else 0)->(∀p∈O,b[i].1≠m->p.1<b[i].1)->
     ∃s',CQ b i m d' O=C (.inl s')/\(s'.2.1=((i+1:Nat):Int)/\(s'.1=true↔∃p∈b.take (i+1),m<=p.1)/\GW s'.2.2/\(∀p,p∈s'.2.2↔(p.1≠m/\p∈b.take (i+1))\/(s'.1=true/\0<n/\p=(m,n)))/\s'.2.2.length<=i+1+(bif s'.1 then 1 else 0)):=λd' O g1 g2 g3 g4 g5=>by
    unfold CQ Mv;have hdl:(bif d' then 1 else 0:Nat)<=1:=by cases d'<;>decide
    rw[Qs,hx];simp only[Qa];by_cases e:b[i].1=m
    ·rw[show(b[i].1 != m)=false by simpa using e];refine⟨_,rfl,Qj hi hl,g1,g2,λp=>?_,by show O.length<=_;omega⟩;show p∈O↔_;rw[g3,WX hi,XU,Da];constructor
     ·rintro (⟨x1,x2⟩|x)
      ·exact .inl ⟨x1,.inl x2⟩
      exact .inr x
     rintro (⟨x1,x2 | rfl⟩|x)
     ·exact .inl ⟨x1,x2⟩
     ·exact absurd e x1
     exact .inr x
    rw[show(b[i].1 != m)=true by simpa using e,Ql,YR (by simp;omega)];refine⟨_,rfl,Qj hi hl,g1,QcV.2 ⟨g2,λp hp=>g5 p hp e⟩,λp=>?_,by show(O++[b[i]]).length<=_;rw[Jp];simp;omega⟩;show p∈O++[b[i]]↔_;rw[XU,Da,g3,WX hi,XU,Da];constructor
    ·rintro ((⟨x1,x2⟩|x) | rfl)
     ·exact .inl ⟨x1,.inl x2⟩
     ·exact .inr x
     exact .inl ⟨e,.inr rfl⟩
    rintro (⟨x1,x2 | x2⟩|x)
    ·exact .inl (.inl ⟨x1,x2⟩)
    ·exact .inr x2
    exact .inl (.inr x)
   have grow:∀p:Int×Int,p∈b.take (i+1)↔p∈b.take i\/p=b[i]:=λp=>by rw[WX hi,XU,Da]
   cases d with
   | true=>
    obtain⟨q,hq,hq2⟩:=h2.1 rfl;rw[show(!true)=false from rfl,Qi,Qa,Qi];exact own true out ⟨λ_=>⟨q,(grow q).2 (.inl hq),hq2⟩,λ_=>rfl⟩ h3 h4 h5 λp hp _=>by
     rcases(h4 p).1 hp with⟨_,x⟩|⟨_,_,rfl⟩
     ·exact hup p x
     have:=hup q hq;show m<_;omega
   | false=>
    have low:∀p∈b.take i,p.1<m:=λp hp=>by
     apply Classical.byContradiction;intro hc;have:=h2.2 ⟨p,hp,by omega⟩;cases this
    rw[show(!false)=true from rfl,Ql,Qs,hx];simp only[Qa];by_cases e:m<=b[i].1
    ·rw[Qt e,Ql];have g1:(true=true↔∃p∈b.take (i+1),m<=p.1):=⟨λ_=>⟨b[i],(grow _).2 (.inr rfl),e⟩,λ_=>rfl⟩;by_cases hn0:0<n
     ·rw[Qt hn0,Ql,YR (by simp only[Qi]at h5;simp;omega),Qa];refine own true (out++[(m,n)]) g1 (QcV.2 ⟨h3,λp hp=>?_⟩) (λp=>?_) (by simp only[Qi]at h5;simp;omega) λp hp he=>?_
      ·rcases(h4 p).1 hp with⟨_,x⟩|⟨x,_⟩
       ·exact low p x
       cases x
      ·rw[XU,Da,h4];constructor
       ·rintro ((x | ⟨x,_⟩) | rfl)
        ·exact .inl x
        ·cases x
        exact .inr ⟨rfl,hn0,rfl⟩
       rintro (x | ⟨_,_,x⟩)
       ·exact .inl (.inl x)
       exact .inr x
      rcases XU.1 hp with hp | hp
      ·rcases(h4 p).1 hp with⟨_,x⟩|⟨x,_⟩
       ·exact hup p x
       cases x
      simp at hp;subst hp;show m<_;omega
     rw[Qz hn0,Qi];refine own true out g1 h3 (λp=>?_) (by simp only[Qi]at h5;simp;omega) λp hp he=>?_
     ·rw[h4];constructor
      ·rintro (x | ⟨x,_⟩)
       ·exact .inl x
       cases x
      rintro (x | ⟨_,x,_⟩)
      ·exact .inl x
      exact absurd x hn0
     rcases(h4 p).1 hp with⟨_,x⟩|⟨x,_⟩
     ·exact hup p x
     cases x
    rw[Qz e,Qi];refine own false out ⟨(λx=>by cases x),λ⟨p,hp,hp2⟩=>?_⟩ h3 h4 h5 λp hp he=>?_
    ·rcases(grow p).1 hp with x | rfl
     ·have:=low p x;omega
     exact absurd hp2 e
    rcases(h4 p).1 hp with⟨_,x⟩|⟨x,_⟩
    ·exact hup p x
    cases x) (λs hI=>by
   obtain⟨d,a,out⟩:=s;obtain⟨h1,h2,h3,h4,h5⟩:=hI;replace h1:a=(b.length:Int):=h1;subst h1;rw[UG]at h2 h4;refine⟨(d,out),?_,h2,h3,h4,h5⟩;show UR b m n d b.length out=_;unfold UR;rw[Qz (by omega)];rfl) (false,0,[]) ⟨rfl,by simp,by simp[GW],by simp,by simp⟩
 rw[hr,Qa];show ∃r,Ve n m dn out=C r/\_;unfold Ve Mx;have fin:∀r:QBg,GW r->(∀p,p∈r↔(p.1≠m/\p∈b)\/(0<n/\p=(m,n)))->Rt r/\∀k,QH r k=if k=m then n else QH b k:=λr hA hmem=>by
  refine⟨⟨hA,λp hp=>?_⟩,λk=>?_⟩
  ·rcases(hmem p).1 hp with⟨_,x⟩|⟨x,rfl⟩
   ·exact hb.2 p x
   exact⟨hm,by show 1<=n;omega,hn.2⟩
  by_cases e:k=m
  ·subst e;rw[if_pos rfl];by_cases hn0:0<n
   ·exact ET hA.nd ((hmem (k,n)).2 (.inr ⟨hn0,rfl⟩))
   unfold QH;rw[OP.2 λp hp=>?_]
   ·show(0:Int)=n;omega
   rcases(hmem p).1 hp with⟨x,_⟩|⟨x,_⟩
   ·exact x
   exact absurd x hn0
  rw[if_neg e];unfold QH;congr 1;cases hq:Qr b k with
  | some v=>exact(Kc hA.nd).2 ((hmem (k,v)).2 (.inl ⟨e,(Kc hb.1.nd).1 hq⟩))
  | none=>
   refine OP.2 λp hp=>?_;rcases(hmem p).1 hp with⟨_,x⟩|⟨_,rfl⟩
   ·exact OP.1 hq p x
   exact λx=>e x.symm
 cases dn with
 | true=>
  obtain⟨f1,f2⟩:=fin out h2 λp=>by rw[h3];simp
  exact⟨out,rfl,f1,f2,by simpa using h4⟩
 | false=>
  have low:∀p∈b,p.1<m:=λp hp=>by
   apply Classical.byContradiction;intro hc;have:=h1.2 ⟨p,hp,by omega⟩;cases this
  by_cases hn0:0<n
  ·rw[Qt hn0];simp only[Qi,IT]at h4;obtain⟨f1,f2⟩:=fin (out++[(m,n)]) (QcV.2 ⟨h2,λp hp=>by
    rcases(h3 p).1 hp with⟨_,x⟩|⟨x,_⟩
    ·exact low p x
    ·cases x⟩) λp=>by
    rw[XU,Da,h3];constructor
    ·rintro ((x | ⟨x,_⟩) | rfl)
     ·exact .inl x
     ·cases x
     exact .inr ⟨hn0,rfl⟩
    rintro (x | ⟨_,x⟩)
    ·exact .inl (.inl x)
    exact .inr x
   refine⟨out++[(m,n)],?_,f1,f2,by simp;omega⟩;rw[show(!false&&true)=true from rfl,Ql,YR (by simp;omega)];rfl
  rw[Qz hn0];obtain⟨f1,f2⟩:=fin out h2 λp=>by
   rw[h3];constructor
   ·rintro (x | ⟨x,_⟩)
    ·exact .inl x
    cases x
   rintro (x | ⟨x,_⟩)
   ·exact .inl x
   exact absurd x hn0
  exact⟨out,rfl,f1,f2,by simp only[Qi,IT]at h4;omega⟩
def Qrl (O:GW b)(hi:i<b.length)(k:Int):QH (b.take (i+1)) k=if k=b[i].1 then b[i].2 else QH (b.take i) k:=by
 have h:GW (b.take (i+1)):=O.sublist (List.take_sublist _ _);by_cases e:k=b[i].1
 ·subst e;rw[if_pos rfl];exact ET h.nd (by rw[WX hi];exact QiB _ XD)
 rw[if_neg e];unfold QH;congr 1;have h0:GW (b.take i):=O.sublist (List.take_sublist _ _);cases hq:Qr (b.take i) k with
 | some v=>exact(Kc h.nd).2 (by rw[WX hi];exact NG _ ((Kc h0.nd).1 hq))
 | none=>
  refine OP.2 λp hp=>?_;rw[WX hi]at hp;rcases XU.1 hp with hp | hp
  ·exact OP.1 hq p hp
  simp at hp;subst hp;exact λx=>e x.symm
def Qxk (h:GW b)(hi:i<b.length):QH (b.take i) b[i].1=0:=by
 unfold QH;rw[OP.2 λp hp=>by have:=Qrj h hi p hp;omega];rfl
def QlT {a:QBg}(h:a.length+b.length<=4294967290):AS a b=Jt a b:=by
 unfold AS Qe6 Qe7;have ha:a.length<=maxLen:=by unfold maxLen;omega
 have hb:b.length<=maxLen:=by unfold maxLen;omega
 rw[HL ha,HL hb,Qa];rcases UA a b (by omega)with⟨h1,h2⟩|⟨h1,h2,⟨k,h3⟩,h4⟩|⟨h1,h2,r,h3,h4,h5,h6⟩
 ·rw[h2,<-YV,<-YV]at *;cases ra:Ek (-1) a with
  | false=>rfl
  | true=>
   cases rb:Ek (-1) b with
   | false=>rfl
   | true=>exact absurd ⟨ra,rb⟩ h1
 all_goals
  rw[YV.2 h1,YV.2 h2];simp only[JD,Qi,Qa,LW,NF,Ui];rw[YR (by omega),Qa];obtain⟨q,hq,hp⟩:=JC (body:=λst:Int×QBg=>EI b st.1 st.2) b.length
   (λi s=>s.1=(i:Int)/\Rt s.2/\(∀k,QH s.2 k=QH a k+QH (b.take i) k)/\s.2.length<=a.length+i)
   (λq=>(q=.inl ()/\∃k,1048576<QH a k+QH b k)\/∃r,q=.inr r/\Rt r/\∀k,QH r k=QH a k+QH b k) (λi s hi hI=>by
    obtain⟨x,out⟩:=s;obtain⟨O,g2,g3,g4⟩:=hI;replace O:x=(i:Int):=O;subst O;replace g2:Rt out:=g2;replace g3:∀k,QH out k=QH a k+QH (b.take i) k:=g3;replace g4:out.length<=a.length+i:=g4;have hx:b[i]? = C b[i]:=Qp hi;have hbi:=‹Rt b›.2 _ (Xn hi);show(∃s',EI b i out=_/\_)\/∃r,EI b i out=_/\_;unfold EI;rw[Qt (by omega),Ql,Qs,hx];simp only[Qa];have hc:=‹Rt a›.cnt b[i].1;rw[Qis (by unfold maxLen;omega) g2,Qa,g3,Qxk ‹Rt b›.1 hi,Int.add_zero,Xh (by omega)];by_cases e:1048576<QH a b[i].1+b[i].2
    ·rw[Qt e];refine .inr ⟨_,rfl,.inl ⟨rfl,b[i].1,?_⟩⟩;rw[ET ‹Rt b›.1.nd (Xn hi)];exact e
    ·rw[Qz e,Qi];obtain⟨r,r1,r2,r3,r4⟩:=Qrk (b:=out) (by omega) g2 (m:=b[i].1) (n:=QH a b[i].1+b[i].2) (by omega) (by omega);rw[r1,Qa];refine .inl ⟨_,rfl,Qj hi hb,r2,λk=>?_,by show r.length<=_;omega⟩;show QH r k=_;rw[r3,Qrl ‹Rt b›.1 hi,g3];by_cases ek:k=b[i].1
     ·subst ek;rw[if_pos rfl,if_pos rfl]
     rw[if_neg ek,if_neg ek]) (λs hI=>by
    obtain⟨x,out⟩:=s;obtain⟨O,g2,g3,g4⟩:=hI;replace O:x=(b.length:Int):=O;subst O;rw[UG]at g3;refine⟨.inr out,?_,.inr ⟨out,rfl,g2,g3⟩⟩;show EI b b.length out=_;unfold EI;rw[Qz (by omega)];rfl) (0,a) ⟨rfl,by assumption,λk=>by simp[QH,Qr],by simp⟩
  rw[hq]
 ·rcases hp with⟨rfl,_⟩|⟨r,rfl,r1,r2⟩
  ·rw[h4];rfl
  have:=r1.cnt k;rw[r2]at this;omega
 rcases hp with⟨rfl,k,hk⟩|⟨r',rfl,r1,r2⟩
 ·have:=h4.cnt k;rw[h5]at this;omega
 have:r'=r:=rt_ext r1 h4 λk=>by rw[r2,h5]
 subst this;rw[h3];rfl
def ZQ {a:QBg}(ha:a.length<=maxLen)(hb:b.length<=maxLen):EP a b=Nh a b:=by
 unfold EP QaV QaW;rw[HL ha,HL hb,Qa];obtain⟨r,h1,h⟩:=Fb a b ha hb;rw[h1];cases ra:Ek (-1) a with
 | false=>
  have:r=false:=by
   cases r with
   | false=>rfl
   | true=>have:=YV.2 (h.1 rfl).1;rw[ra]at this;cases this
  rw[this];rfl
 | true=>
  cases rb:Ek (-1) b with
  | false=>
   have:r=false:=by
    cases r with
    | false=>rfl
    | true=>have:=YV.2 (h.1 rfl).2.1;rw[rb]at this;cases this
   rw[this];rfl
  | true=>
   have h3:=YV.1 ra;have O:=YV.1 rb;simp only[JD,Qi,Qa];rw[SH (body:=λst:Int=>Ed a b st) (l:=a) (λi=>(i:Int)) (λ_ x=>decide (QH b x.1<x.2)) (.inl ()) (.inr ()) (λi x hi hx=>by
    show Ed a b i=_;unfold Ed;rw[Qt (by omega),Ql,Qs,hx];simp only[Qa];rw[Qis hb O,Qa,Qj hi ha];cases decide (QH b x.1<x.2)<;>rfl) (by
    show Ed a b a.length=_;unfold Ed;rw[Qz (by omega),Qi]) (s0:=0) rfl,Qa]
   have e:∀(l:QBg) (k:Nat),BT (λ_ x=>decide (QH b x.1<x.2)) k l=l.any λp=>decide (QH b p.1<p.2):=λl=>by
    induction l with
    | nil=>intro k;rfl
    | cons x l ih=>intro k;rw[BT,ih,List.any_cons]
   rw[e];have aw:=Qgn h3 O;cases hq:a.any λp=>decide (QH b p.1<p.2)with
   | false=>rw[h.2 ⟨h3,O,aw.1 hq⟩];rfl
   | true=>
    have:r=false:=by
     cases r with
     | false=>rfl
     | true=>rw[aw.2 (h.1 rfl).2.2]at hq;cases hq
    rw[this];rfl
def Qal {σ ρ:Type}{b1 b2:σ->O_ (σ⊕ρ)}(n:Nat)(I:Nat->σ->Prop)(he:∀i s,I i s->b1 s=b2 s)(hn:∀i s O,I i s->b2 s=C (.inl O)->i<n/\I (i+1) O):∀s0,I 0 s0->Qh b1 s0=Qh b2 s0:=by
 have key:∀(k i:Nat) s,n<=i+k->I i s->Qh b1 s=Qh b2 s:=by
  intro k
  induction k with
  | zero=>
   intro i s hk hI;rw[Yl,Yl (body:=b2),he i s hI];cases hb:b2 s with
   | none=>rfl
   | some o=>
    cases o with
    | inr r=>rfl
    | inl O=>have:=(hn i s O hI hb).1;omega
  | succ k ih=>
   intro i s hk hI;rw[Yl,Yl (body:=b2),he i s hI];cases hb:b2 s with
   | none=>rfl
   | some o=>
    cases o with
    | inr r=>rfl
    | inl O=>exact ih (i+1) O (by omega) (hn i s O hI hb).2
 exact λs0 h=>key n 0 s0 (by omega) h
structure RN (n:Qd):Prop where
 c:∀c∈n.Colours,IC c
 g:∀t∈n.Tasks,RE t.Guard
 i:∀t∈n.Tasks,∀a∈t.Ins,RE a.Expr
 o:∀t∈n.Tasks,∀a∈t.Outs,RE a.Expr
def QlU (h:QT n)(hr:RN n)(task:Int)(O:LI_):∃r,Ga n task O=C r/\Lz n task O=C r/\(r.2=0->(∀x∈r.1,XI x)/\∃e,idx n.Tasks task=C e/\e∈n.Tasks):=by
 unfold Ga Lz;cases hq:((decide (task<0))||(decide ((n.Tasks.length:Int)<=task)))with
 | true=>exact⟨_,rfl,rfl,λh=>by cases h⟩
 | false=>
  simp only[JT,QS]at hq;have he:idx n.Tasks task=C (n.Tasks[task.toNat]'(by omega)):=PT (by omega) (by omega);have hm:(n.Tasks[task.toNat]'(by omega))∈n.Tasks:=Xn _;rw[Qi,Qi,he,Qa,Qa];generalize (n.Tasks[task.toNat]'(by omega))=e at he hm;have hv:=(h.tk e hm).1;by_cases hl:(O.length:Int)=(e.Vars.length:Int)
  ·rw[show((O.length:Int) != (e.Vars.length:Int))=false by simpa using hl,Qi,Qi,GV (by simp;omega),Qa];have mx:(16:Nat)<=maxLen:=by decide
   obtain⟨r,q,e1,e2,e3⟩:=QcU (b1:=λst:Int×LI_=>DZ e O n st.1 st.2) (b2:=λst:Int×LI_=>Hn e O n st.1 st.2) e.Vars.length
    (λi s t=>s=((i:Int),t.2++List.replicate (e.Vars.length-i) 0)/\t.1=(i:Int)/\t.2.length=i/\∀x∈t.2,XI x) (λr q=>r=q/\∀l,r=.inr l->∀x∈l,XI x) (λi s t hi hI=>by
     obtain⟨a,out⟩:=t;obtain⟨rfl,h2,h3,h4⟩:=hI;replace h2:a=(i:Int):=h2;subst h2;replace h3:out.length=i:=h3;replace h4:∀x∈out,XI x:=h4;show(i<e.Vars.length/\∃s' t',DZ e O n i (out++List.replicate (e.Vars.length-i) 0)=_/\Hn e O n i out=_/\_)\/∃r q,DZ e O n i (out++List.replicate (e.Vars.length-i) 0)=_/\Hn e O n i out=_/\_;unfold DZ Hn;by_cases hlt:i<e.Vars.length
     ·rw[Qt (by omega:(i:Int)<(e.Vars.length:Int)),Ql,Ql,Qs,Qp hlt,Qs,Qp (show i<O.length by omega)];simp only[Qa];obtain⟨y,y1,y2,y3⟩:=Qr3 h.k.1 hr.c (e.Vars[i]).Colour (O[i]'(by omega));have hrep:List.replicate (e.Vars.length-i) (0:Int)=0::List.replicate (e.Vars.length-(i+1)) 0:=by
       rw[show e.Vars.length-i=(e.Vars.length-(i+1))+1 by omega];rfl
      rw[y1,y2,Qa,Qa];cases y.2 with
      | false=>exact .inr ⟨_,_,rfl,rfl,rfl,λl h=>by cases h⟩
      | true=>
       left;simp only[JD,Qi];rw[Qs,hrep,Kn (by omega),h3,Tf,YR (by simp;omega)];refine⟨hlt,_,_,rfl,rfl,?_,Qj hlt (by omega),by simp;omega,λx hx=>?_⟩
       ·rw[Qj hlt (by omega),Xs,QiC _ _ (by omega),h3,Tf,Dz];rfl
       rcases XU.1 hx with hx | hx
       ·exact h4 x hx
       simp at hx;subst hx;exact y3
     right;rw[Qz (by omega:¬(i:Int)<(e.Vars.length:Int))];have:i=e.Vars.length:=by omega
     subst this;refine⟨_,_,rfl,rfl,?_,λl hl=>?_⟩
     ·simp
     cases hl;simpa using h4) (0,List.replicate (e.Vars.length:Int).toNat 0) (0,[]) ⟨by simp,rfl,rfl,λx h=>by cases h⟩
   obtain⟨e3,e4⟩:=e3;subst e3;rw[e1,e2];rcases r with r | r
   ·exact⟨_,rfl,rfl,λh=>by cases h⟩
   exact⟨_,rfl,rfl,λ_=>⟨e4 r rfl,e,rfl,hm⟩⟩
  rw[show((O.length:Int) != (e.Vars.length:Int))=true by simpa using hl];exact⟨_,rfl,rfl,λh=>by cases h⟩
def QeL (h:QT n)(hr:RN n){l:L_ XT}(hl:QP Lp l)(hre:∀a∈l,RE a.Expr){O:LI_}(hw:O.length<=1000)(hv:∀x∈env,XI x):EO n l O env=Yp n l O env:=by
 unfold EO Yp;congr 1;funext _;have mx:(1000:Nat)<=maxLen:=by decide
 have e:Qh (λst:Int×L_ QBg=>FP O l env n st.1 st.2) (0,(List.replicate (n.Places.length:Int).toNat (([]:QBg):QBg)))=Qh (λst:Int×L_ QBg=>WM O l env n st.1 st.2) (0,(List.replicate (n.Places.length:Int).toNat (([]:QBg):QBg))):=by
  refine Qal O.length (λi s=>s.1=(i:Int)/\i<=O.length/\∀b∈s.2,b.length<=i) (λi s hI=>?_) (λi s s' hI hs=>?_) _ ⟨rfl,by omega,λb hb=>by rw[Zu hb];simp⟩
  ·obtain⟨a,m⟩:=s;obtain⟨h1,h2,h3⟩:=hI;replace h1:a=(i:Int):=h1;subst h1;replace h3:∀b∈m,b.length<=i:=h3;show FP O l env n i m=WM O l env n i m;unfold FP WM;cases decide ((i:Int)<(O.length:Int))with
   | false=>rfl
   | true=>
    rw[Ql,Ql];cases idx O (i:Int)with
    | none=>rfl
    | some k=>
     simp only[Qa];cases ((decide (k<0))||(decide ((l.length:Int)<=k)))with
     | true=>rfl
     | false=>
      rw[Qi,Qi];cases hk:idx l k with
      | none=>rfl
      | some a=>
       simp only[Qa];have ha:a∈l:=Xt (Yo hk).2;obtain⟨x,x1,x2,x3⟩:=Qpx (hl.2 a ha).2 (hre a ha) hv;rw[x1,x2,Qa,Qa];cases (x.2 != 0)with
       | true=>rfl
       | false=>
        rw[Qi,Qi];cases ((decide (a.Place<0))||(decide ((n.Places.length:Int)<=a.Place)))with
        | true=>rfl
        | false=>
         rw[Qi,Qi];cases idx n.Places a.Place with
         | none=>rfl
         | some p=>
          simp only[Qa];obtain⟨y,y1,y2⟩:=Qr4 h.k.1 hr.c p.Colour x.1 x3;rw[y1,y2,Qa,Qa];cases hy:y.2 with
          | false=>rfl
          | true=>
           simp only[JD,Qi];have y0:=EU (Qra n.Colours p.Colour x.1 h.k.1) y1 hy;cases hb:idx m a.Place with
           | none=>rfl
           | some b=>
            simp only[Qa];have hbl:=h3 b (Xt (Yo hb).2);rw[Vz,Qt y0,Ql,Qa,QlT (by simp;omega)]
  obtain⟨a,m⟩:=s;obtain⟨h1,h2,h3⟩:=hI;replace h1:a=(i:Int):=h1;subst h1;replace h3:∀b∈m,b.length<=i:=h3;replace hs:WM O l env n i m=C (.inl s'):=hs;unfold WM at hs;rcases Ye hs with⟨c,hs⟩|⟨_,hs⟩
  ·have hlt:i<O.length:=by simpa using c
   obtain⟨k,_,hs⟩:=QU hs;rcases Ye hs with⟨_,hs⟩|⟨_,hs⟩
   ·cases hs
   obtain⟨a,_,hs⟩:=QU hs;obtain⟨x,_,hs⟩:=QU hs;rcases Ye hs with⟨_,hs⟩|⟨_,hs⟩
   ·cases hs
   obtain⟨a',_,hs⟩:=QU hs;rcases Ye hs with⟨_,hs⟩|⟨_,hs⟩
   ·cases hs
   obtain⟨p,_,hs⟩:=QU hs;obtain⟨y,_,hs⟩:=QU hs;rcases Ye hs with⟨_,hs⟩|⟨_,hs⟩
   ·cases hs
   obtain⟨b,hb,hs⟩:=QU hs;obtain⟨o,ho,hs⟩:=QU hs;obtain⟨u,hu,hs⟩:=QU hs;obtain⟨_,_,hs⟩:=QU hs;rcases Ye hs with⟨_,hs⟩|⟨cu,hs⟩
   ·cases hs
   cases hs;refine⟨hlt,Qj hlt (by omega),by omega,λc hc=>?_⟩;have hbl:=h3 b (Xt (Yo hb).2);rw[Vz]at ho;have hol:o.length<=1:=by
    rw[<-Option.some.inj ho];cases decide (0<=y.1)<;>simp
   rcases Zl hc with rfl | hc
   ·rcases UA b o (by omega)with⟨_,e⟩|⟨_,_,_,e⟩|⟨_,_,r,e,_,_,e2⟩
    ·rw[hu]at e;cases e;simp
    ·rw[hu]at e;cases e;simp
    rw[hu]at e;cases e;show r.length<=_;omega
   have:=h3 c hc;omega
  cases hs
 rw[e];all_goals rfl
def QnJ (h:QT n)(O:RN n)(ho:Yf n o):Lj n o=DT n o:=by
 unfold Lj DT;obtain⟨r,e1,e2,e3⟩:=QlU h O o.Task o.Vars;rw[e1,e2,Qa,Qa];cases hz:(r.2 != 0)with
 | true=>rfl
 | false=>
  obtain⟨hv,e,he,hm⟩:=e3 (by simpa using hz);rw[Qi,Qi,he,Qa,Qa,QeL h O (h.k.2.2.1.2 e hm).2.2.2.2.2.1 (O.i e hm) (by have:=ho.2.1;omega) hv]
def QnK (h:QT n)(O:RN n)(ho:Yf n o):Cn n o=(Ga n o.Task o.Vars).bind λx=>bif (x.2 != 0)then C ([],x.2)else(idx n.Tasks o.Task).bind λe=>(Yp n e.Outs o.Outs x.1).bind λy=>C (y.1,y.2):=by
 unfold Cn;obtain⟨r,e1,e2,e3⟩:=QlU h O o.Task o.Vars;rw[e1,e2,Qa,Qa];cases hz:(r.2 != 0)with
 | true=>rfl
 | false=>
  obtain⟨hv,e,he,hm⟩:=e3 (by simpa using hz);rw[Qi,Qi,he,Qa,Qa,QeL h O (h.k.2.2.1.2 e hm).2.2.2.2.2.2.1 (O.o e hm) (by have:=ho.2.2;omega) hv]
def Qj5 {a m:L_ QBg}(h:QP (QP λ_=>True) a)(O:QP (QP λ_=>True) m):Hs a m=UZ a m:=by
 unfold Hs UZ Ya;cases ((a.length:Int) != (m.length:Int))with
 | true=>rfl
 | false=>
  rw[Qi,Qi];have e:(λst=>Pu a m st)=λst=>Xi a m st:=by
   funext i;unfold Pu Xi;cases decide (i<(a.length:Int))with
   | false=>rfl
   | true=>
    rw[Ql,Ql];cases hx:idx a i with
    | none=>rfl
    | some x=>
     cases hy:idx m i with
     | none=>rfl
     | some y=>
      simp only[Qa];rw[ZQ (h.2 x (Xt (Yo hx).2)).1 (O.2 y (Xt (Yo hy).2)).1]
  rw[e];cases Qh (λst=>Xi a m st) 0 with
  | none=>rfl
  | some q=>cases q<;>rfl
def QiQ (a b:LI_)(h:a.length<=maxLen):Hq a b=C (decide (a=b)):=by
 rw[<-QnF a b h];rfl
def QnL (O h:Int)(row:LI_):Hr O h row=C (decide (row∈El O h)):=by
 unfold Hr;obtain⟨e,hx⟩:=PV O h;rw[QcT,e,Qa];generalize El O h=x at hx;have mx:(16:Nat)<=maxLen:=by decide
 have hl:=hx.1;rw[SH (body:=λst:Int=>Eb x row st) (l:=x) (λi=>(i:Int)) (λ_ y=>decide (y=row)) (.inl ()) (.inr ()) (λi y hi hy=>by
  show Eb x row i=_;unfold Eb;rw[Qt (by omega),Ql,Qs,hy,Qa,QiQ _ _ (by have:=hx.2 y (Xt hy);omega),Qa,Qj hi (by omega)];cases decide (y=row)<;>rfl) (by
  show Eb x row x.length=_;unfold Eb;rw[Qz (by omega),Qi]) (s0:=0) rfl,Qa]
 by_cases hm:row∈x
 ·obtain⟨i,hi⟩:=En.1 hm;have:BT (λ_ y=>decide (y=row)) 0 x=true:=Qgi.2 ⟨i,row,hi,by simp⟩;rw[this,Qt hm];rfl
 have:BT (λ_ y=>decide (y=row)) 0 x=false:=Qbk.2 λi y hy=>Qz λe=>hm (e▸Xt hy);rw[this,Qz hm];rfl
def Qyd {l:LI_}(hl:l.length<=maxLen)(k:Int):Qbj l k=C (decide (k∈l)):=by
 unfold Qbj;rw[SH (body:=λst:Int=>Cm l k st) (l:=l) (λi=>(i:Int)) (λ_ y=>y==k) (.inl ()) (.inr ()) (λi y hi O=>by
  show Cm l k i=_;unfold Cm;rw[Qt (by omega),Ql,Qs,O,Qa,Qj hi hl];cases (y==k)<;>rfl) (by
  show Cm l k l.length=_;unfold Cm;rw[Qz (by omega),Qi]) (s0:=0) rfl,Qa]
 by_cases h:k∈l
 ·obtain⟨i,hi⟩:=En.1 h;have:BT (λ_ y=>y==k) 0 l=true:=Qgi.2 ⟨i,k,hi,by simp⟩;rw[this,Qt h];rfl
 have:BT (λ_ y=>y==k) 0 l=false:=Qbk.2 λi y O=>by
  have:=Xt O;simp only[beq_eq_false_iff_ne];intro e;exact h (e▸this)
 rw[this,Qz h];rfl
def Qye {l:LI_}(h:l.length<=maxLen)(k:Int):XW l k=C (decide (k∈l)):=by
 unfold XW Wc;rw[QuQ (l:=l) (λy=>k==y) (λi x hi O=>by
  show XE l k i=_;unfold XE;rw[Qt (by omega),Ql,Qs,O,Qa,Qj hi h];cases (k==x)<;>rfl) (by
  show XE l k l.length=_;unfold XE;rw[Qz (by omega),Qi])]
 have e:decide (k∈l)=l.any λy=>k==y:=by
  apply NC.2;simp[EX]
 rw[e,<-QwU];cases KM (λ_ y=>k==y) 0 l<;>rfl
def chP (h:Nat):Bool:=((YT 3 h).getD []).all λrow=>(List.range h).all λk=>decide ((k:Int)∈row)||decide (ZM row k=C (Kq (row++[(k:Int)])))
def Qyf {O:Nat}{row:LI_}(h:row∈El 3 O)(hk:k<O)(hn:(k:Int) ∉ row):ZM row k=C (Kq (row++[(k:Int)])):=by
 by_cases h4:O<=4
 ·have c:chP O=true:=by
   rcases show O=0\/O=1\/O=2\/O=3\/O=4 by omega with e | e | e | e | e<;>subst e<;>kernel_rfl
  have:=XJ.1 (XJ.1 c row h) k (Eo.2 hk);rw[Qz hn,SZ]at this;exact Xd this
 exfalso;unfold El YT at h;have:((decide ((O:Int)<0))||((decide ((16:Int)<(O:Int)))||(((3:Int)==3)&&(decide ((4:Int)<(O:Int))))))=true:=by simp;omega
 rw[this]at h;simp at h
def Qts (h:QT n)(hr:RN n){m:L_ QBg}(hm:QP (QP λ_=>True) m)(ho:Yf n o)(he:e∈n.Tasks)(hj:e.Join=3){z:Int}(hv:∀x∈env,XI x)(hch:o.Ins∈El e.Join e.Ins.length):
  Qh (λst=>WV e o n (env,z) m st) 0=Qh (λst=>Yu (Xl.mk n m e env) o.Ins st) 0:=by
 have hi:=(h.tk e he).2.1;have mx:(1000:Nat)<=maxLen:=by decide
 have hil:=ho.2.1;rw[hj]at hch;refine Qal (b1:=λst=>WV e o n (env,z) m st) (b2:=λst=>Yu (Xl.mk n m e env) o.Ins st) e.Ins.length (λi s=>s=(i:Int)) (λi s hI=>?_) (λi s s' hI O=>?_) 0 rfl
 ·subst hI;show WV e o n (env,z) m i=Yu (Xl.mk n m e env) o.Ins i;unfold WV Yu;rw[hj,show((3:Int)==3)=true from rfl,Zs];by_cases hlt:i<e.Ins.length
  ·rw[Qt (by omega:(i:Int)<(e.Ins.length:Int)),Ql,Ql,Qyd (by omega),Qye (by omega),Qa,Qa];by_cases hin:(i:Int)∈o.Ins
   ·rw[Qt hin];rfl
   rw[Qz hin,Qi,Qi,Qyf hch hlt hin,SV _ (by omega),Qa,Qa,YR (by simp;omega),Qa,Qgo _ (by simp;omega),Qa,YR (WJ _),Qa];show(EO n e.Ins _ env).bind _=_;rw[QeL h hr (h.k.2.2.1.2 e he).2.2.2.2.2.1 (hr.i e he) (by rw[WJ];simp;omega) hv];show _=(Yp n e.Ins _ env).bind _;cases hx:Yp n e.Ins (Kq (o.Ins++[(i:Int)])) env with
   | none=>rfl
   | some x=>
    simp only[Qa];have:=EU (SJ n e.Ins _ env h (h.k.2.2.1.2 e he).2.2.2.2.2.1 (by rw[WJ];simp;omega)) hx;unfold Qcy Fm;cases hz:(x.2==0)with
    | false=>rfl
    | true=>
     rw[Ql,Ql,Qj5 ((this (by simpa using hz)).1.len h (by rw[WJ];simp;omega)) hm];rfl
  rw[Qz (by omega:¬(i:Int)<(e.Ins.length:Int))];rfl
 subst hI;replace O:Yu (Xl.mk n m e env) o.Ins i=C (.inl s'):=O;unfold Yu at O;rcases Ye O with⟨c,O⟩|⟨_,O⟩
 ·have hlt:i<e.Ins.length:=by
   have:(i:Int)<(e.Ins.length:Int):=Xd c;omega
  refine⟨hlt,?_⟩;have fin:∀s',Wd (i:Int)=C (.inl s')->s'=((i+1:Nat):Int):=λs' h=>by
   unfold Wd at h;rw[<-Qj (n:=e.Ins.length) hlt (by omega)];cases h;rfl
  obtain⟨_,_,O⟩:=QU O;rcases Ye O with⟨_,O⟩|⟨_,O⟩
  ·exact fin s' O
  obtain⟨_,_,O⟩:=QU O;obtain⟨_,_,O⟩:=QU O;obtain⟨_,_,O⟩:=QU O;obtain⟨_,_,O⟩:=QU O;obtain⟨_,_,O⟩:=QU O;obtain⟨_,_,O⟩:=QU O;unfold Fo at O;rcases Ye O with⟨_,O⟩|⟨_,O⟩
  ·cases O
  exact fin s' O
 cases O
def Qgr (h:QT n)(hr:RN n){m:L_ QBg}(hm:QP (QP λ_=>True) m)(ho:Yf n o):Co n m o=YD n m o:=by
 have hN:=QnJ h hr ho;have hG:=QnK h hr ho;unfold DT at hN;unfold Co YD YZ;obtain⟨⟨O,z⟩,e1,e2,e3⟩:=QlU h hr o.Task o.Vars;rw[e1]at hN hG;rw[e1,e2];simp only[Qa]at hN hG ⊢;cases hz:(z != 0)with
 | true=>
  have hz2:(z==0)=false:=by simpa using hz
  rw[Ql,Ql,Qa];simp only[hz2,Qi];unfold JK;rw[hz];rfl
 | false=>
  have hz0:z=0:=by simpa using hz
  obtain⟨hv,e,he,hmem⟩:=e3 hz0;rw[hz,Qi,he,Qa]at hN hG;rw[Qi,Qi,he,Qa,Qa,Qa];simp only[show((0:Int)==0)=true from rfl,Ql];obtain⟨x,x1,x2,_⟩:=Qpx (h.k.2.2.1.2 e hmem).2.2.1 (hr.g e hmem) hv;unfold XC;simp only[x1,x2,Qa];cases hx:(x.2 != 0)with
  | true=>
   simp only[Ql,Qa];unfold JK;rw[hx];rfl
  | false=>
   simp only[Qi];cases hx0:(x.1==0)with
   | true=>rfl
   | false=>
    simp only[Qi,Qa];unfold JK CA CB;simp only[show((0:Int) != 0)=false from rfl,Qi];rw[QnL,QnL,LB,LB,Qa,Qa,Qa];by_cases c1:o.Ins∈El e.Join e.Ins.length
    ·by_cases c2:o.Outs∈El e.Split e.Outs.length
     ·rw[Qt c1,Qt c2];simp only[JD,Ta,Qi,Qa];rw[hN];unfold Xx Yi;show _=(((Yp n e.Ins o.Ins O).bind _).bind _:O_ Int);have kt:=SJ n e.Ins o.Ins O h (h.k.2.2.1.2 e hmem).2.2.2.2.2.1 (by have:=ho.2.1;omega);obtain⟨T,hT,hT2⟩:=kt;rw[hT];simp only[Qa];cases ht:(T.2 != 0)with
      | true=>
       simp only[Ql,Qa,ht]
      | false=>
       simp only[Qi];rw[Qj5 ((hT2 (by simpa using ht)).1.len h (by have:=ho.2.1;omega)) hm];obtain⟨w,hw,_⟩:=QlQ T.1 m ((hT2 (by simpa using ht)).1.len h (by have:=ho.2.1;omega)) hm;rw[hw];simp only[Qa];cases w with
       | false=>rfl
       | true=>
        simp only[JD,Qi];have fin:Bs n o=(Yp n e.Outs o.Outs O).bind λx=>C x.2:=by
         unfold Bs;rw[hG];cases Yp n e.Outs o.Outs O with
         | none=>rfl
         | some y=>rfl
        by_cases hj:e.Join=3
        ·rw[Qts h hr hm ho hmem hj hv c1];simp only[hj,show((3:Int) != 3)=false from rfl,Qi];cases Qh (λst=>Yu (Xl.mk n m e O) o.Ins st) 0 with
         | none=>rfl
         | some q=>
          rcases q with q | q
          ·rfl
          show Bs n o=_;rw[fin];cases Yp n e.Outs o.Outs O<;>rfl
        have hjb:(e.Join==3)=false:=by simpa using hj
        have hjn:(e.Join != 3)=true:=by simpa using hj
        simp only[hjn,Ql,Qa,show((0:Int) != 0)=false from rfl,Qi];have:Qh (λst=>WV e o n (O,z) m st) 0=C (.inr ()):=by
         refine ZU.2 (.done ?_);show WV e o n (O,z) m 0=_;unfold WV;rw[hjb,Bool.and_false];rfl
        rw[this];show Bs n o=_;rw[fin];cases Yp n e.Outs o.Outs O<;>rfl
     rw[Qt c1,Qz c2];rfl
    rw[Qz c1];rfl
def Qpz {α β:Type}{l:L_ α}(g:α->L_ β){most:Nat}{body:Int×L_ β->O_ ((Int×L_ β)⊕(L_ β⊕L_ β))}(A:Nat)(hl:l.length<=maxLen)
  (hb:∀(i:Nat) h x,h.length<most->h.length+(g x).length<=A->i<l.length->l[i]? = C x->body ((i:Int),h)=C (match Jf most h (g x)with | .inl a=>.inr (.inl a) | .inr a=>.inl (Qe ((i:Int)+1),a)))
  (hf:∀h,body ((l.length:Int),h)=C (.inr (.inr h))) {h:L_ β} (O:h.length<most) (hA:h.length+(l.flatMap g).length<=A):Qh body (0,h)=C (Jf most h (l.flatMap g)):=by
 have key:∀(k i:Nat) h,i+k=l.length->h.length<most->h.length+((l.drop i).flatMap g).length<=A->Qh body ((i:Int),h)=C (Jf most h ((l.drop i).flatMap g)):=by
  intro k
  induction k with
  | zero=>
   intro i h hk O hA;obtain rfl:i=l.length:=by omega
   rw[Yl,hf,List.drop_length];show _=C (Jf most h []);rw[SU O];rfl
  | succ k ih=>
   intro i h hk O hA;have hi:i<l.length:=by omega
   rw[Fz hi,UE,Jp]at hA;rw[Yl,hb i h l[i] O (by omega) hi (Qp hi),Fz hi,UE,QiO];cases hx:Jf most h (g l[i])with
   | inl a=>rfl
   | inr a=>
    simp only;show Qh body (Qe ((i:Int)+1),a)=_;rw[Qj hi hl];refine ih (i+1) a (by omega) (Qnq hx) ?_;have:=congrArg List.length (QiP hx);rw[Jp]at this;omega
 have:=key l.length 0 h (by omega) O (by rw[List.drop_zero];exact hA);rwa[List.drop_zero]at this
def Qrm (n:Qd)(m:L_ QBg)(o:Qc):Bool:=decide (YD n m o=C 0)
def Qgs (n:Qd)(m:L_ QBg)(o:Qc):L_ Qc:=if Qrm n m o=true then [o]else []
def Qrn {α β:Type}(p:α->Bool)(f:α->β):∀l:L_ α,l.flatMap (λx=>if p x=true then [f x]else [])=(l.filter p).map f
 | []=>rfl
 | x::l=>by
  rw[UE,Qrn p f l,Bx];cases p x<;>rfl
def Zn {α β:Type}{g:α->L_ β}:∀{l:L_ α},(∀x∈l,g x=[])->l.flatMap g=[]
 | [],_=>rfl
 | x::l,h=>by rw[UE,h x XD,Zn λy O=>h y (Yb _ O)];rfl
def Qgt {α β:Type}{f g:α->L_ β}:∀{l:L_ α},(∀x∈l,f x=g x)->l.flatMap f=l.flatMap g
 | [],_=>rfl
 | x::l,h=>by rw[UE,UE,h x XD,Qgt λy O=>h y (Yb _ O)]
def QuV (h:QT n){m:L_ QBg}(hm:QP (QP λ_=>True) m)(he:idx n.Tasks O=C e){p:LI_}(hp:p.length<=20):
  DV n m O (El e.Join e.Ins.length) (El e.Split e.Outs.length) p=(El e.Join e.Ins.length).flatMap λi=>(El e.Split e.Outs.length).flatMap λk=>Qgs n m (Qc.mk O p i k):=by
 have r1:=(PV e.Join e.Ins.length).2;have r2:=(PV e.Split e.Outs.length).2;have key:∀i∈El e.Join e.Ins.length,∀k∈El e.Split e.Outs.length,(Qrm n m (Qc.mk O p i k)=true↔∃b,YZ n m O p=C (0,b)/\XC b=C 0/\Xx b i=C 0/\Yi b k=C 0):=λi hi k hk=>by
  unfold Qrm;rw[decide_eq_true_iff,Qea h hm ⟨hp,by have:=r1.2 i hi;show i.length<=20;omega,by have:=r2.2 k hk;show k.length<=20;omega⟩,HK];constructor
  ·rintro ⟨_,e',he',_,_,_,b,hb⟩;exact⟨b,hb⟩
  rintro ⟨b,b1,b2⟩;obtain⟨k1,_,_,_,k2,_⟩:=OS h b1;rw[he]at k1;cases k1;exact⟨rfl,_,he,k2.1,hi,hk,b,b1,b2⟩
 unfold DV Qgs;cases hb:YZ n m O p with
 | none=>
  symm;refine Zn λi hi=>Zn λk hk=>if_neg λc=>?_;obtain⟨b,b1,_⟩:=(key i hi k hk).1 c;rw[hb]at b1;cases b1
 | some x=>
  obtain⟨c,b⟩:=x;simp only;by_cases hc:c=0/\XC b=C 0
  ·rw[if_pos hc];refine Qgt λi hi=>?_;by_cases ht:Xx b i=C 0
   ·rw[if_pos ht,<-Qrn];refine Qgt λk hk=>?_;have e:HA b k=Qrm n m (Qc.mk O p i k):=by
     apply NC.2;rw[key i hi k hk];unfold HA;rw[decide_eq_true_iff];constructor
     ·intro hg;exact⟨b,by rw[hb,hc.1],hc.2,ht,hg⟩
     rintro ⟨b',b1,_,_,b2⟩;rw[hb]at b1;cases b1;exact b2
    rw[e]
   rw[if_neg ht];symm;refine Zn λk hk=>if_neg λc=>?_;obtain⟨b',b1,_,b2,_⟩:=(key i hi k hk).1 c;rw[hb]at b1;cases b1;exact ht b2
  rw[if_neg hc];symm;refine Zn λi hi=>Zn λk hk=>if_neg λc=>?_;obtain⟨b',b1,b2,_⟩:=(key i hi k hk).1 c;rw[hb]at b1;cases b1;exact hc ⟨rfl,b2⟩
def Qxl {α:Type}{most:Nat}{O:L_ α}{x:α}(h:O.length<most):Jf most O [x]=if most<=O.length+1 then .inl (O++[x])else .inr (O++[x]):=by
 unfold Jf;by_cases c:most<=O.length+1
 ·rw[if_pos c,if_neg (by simp;omega),JE (by simp;omega)]
 rw[if_neg c,if_pos (by simp;omega)]
def QuW (h:QT n)(hr:RN n){m:L_ QBg}(hm:QP (QP λ_=>True) m){ins outs:L_ LI_}{p:LI_}(hi:Nx ins)(ho:Nx outs)(hp:p.length<=20){acc:L_ Qc}(ha:acc.length<most.toNat)
  (hs:most<=4294967296\/acc.length+(ins.flatMap λi=>outs.flatMap λk=>Qgs n m (Qc.mk O p i k)).length<=4294967296):
  Qh (λst=>Gl ins outs p n m O most st.1 st.2) (0,acc)=C (Jf most.toNat acc (ins.flatMap λi=>outs.flatMap λk=>Qgs n m (Qc.mk O p i k))):=by
 have mx:(1000:Nat)<=maxLen:=by decide
 have hi1:=hi.1;have ho1:=ho.1;obtain⟨A,hA,hA2⟩:∃A,acc.length+(ins.flatMap λi=>outs.flatMap λk=>Qgs n m (Qc.mk O p i k)).length<=A/\(most<=4294967296\/A<=4294967296):=⟨_,Yx _,hs⟩;refine Qpz (l:=ins) (λi=>outs.flatMap λk=>Qgs n m (Qc.mk O p i k)) (body:=λst:Int×L_ Qc=>Gl ins outs p n m O most st.1 st.2) A (by omega) (λi acc x h1 h2 hlt hx=>?_) (λacc=>?_) ha hA
 ·show Gl ins outs p n m O most i acc=_;have hxl:=hi.2 x (Xt hx);unfold Gl;rw[Qt (by omega:(i:Int)<(ins.length:Int)),Ql];rw[Qpz (l:=outs) (λk=>Qgs n m (Qc.mk O p x k)) (body:=λst:Int×L_ Qc=>EQ outs p ins i n m O most st.1 st.2) A (by omega) (λk acc y g1 g2 glt gy=>by
   show EQ outs p ins i n m O most k acc=_;have hyl:=ho.2 y (Xt gy);have hck:∃c,YD n m (Qc.mk O p x y)=C c:=(Qfq n m (Qc.mk O p x y) h hm ⟨hp,by show x.length<=20;omega,by show y.length<=20;omega⟩).tot;obtain⟨c,hc⟩:=hck;unfold EQ IB;rw[Qt (by omega:(k:Int)<(outs.length:Int)),Ql,YR (by simp;omega),Qa,Qs,hx,Qa,Qs,gy,Qa,LW,Qgr h hr hm ⟨hp,by show x.length<=20;omega,by show y.length<=20;omega⟩,hc,Qa];unfold Qgs Qrm at g2 ⊢;rw[hc]at g2 ⊢;by_cases hc0:c=0
   ·subst hc0;rw[if_pos (by simp)]at g2 ⊢;rw[Qxl g1];simp only[show((0:Int)==0)=true from rfl,Ql];rw[Bz]at g2;rw[YR (by rw[Bz];omega),Qa,Jp,Bz];by_cases hcut:most.toNat<=acc.length+1
    ·rw[if_pos hcut,Qt (by omega:most<=((acc.length+1:Nat):Int))];rfl
    rw[if_neg hcut,Qz (by omega:¬most<=((acc.length+1:Nat):Int))];rfl
   ·have e1:(c==0)=false:=by simpa using hc0
    rw[if_neg (by simpa using hc0),SU g1,e1];rfl) (λacc=>by
   show EQ outs p ins i n m O most outs.length acc=_;unfold EQ;rw[Qz (by omega)];rfl) h1 h2,Qa]
  cases Jf most.toNat acc (outs.flatMap λk=>Qgs n m (Qc.mk O p x k))<;>rfl
 show Gl ins outs p n m O most ins.length acc=_;unfold Gl;rw[Qz (by omega)];rfl
def QuX (h:QT n)(O:RN n)(t:QF)(s:Int×LI_):Qh (λst=>ID t n st.1 st.2) s=Qh (λst=>KD t n st.1 st.2) s:=by
 have e:(λst:Int×LI_=>ID t n st.1 st.2)=λst=>KD t n st.1 st.2:=by
  funext st;unfold ID KD Qcz HZ;simp only[QuT h.k.1 O.c];rfl
 rw[e]
def Qr5 (h:QT n)(hr:RN n){m:L_ QBg}(hm:QP (QP λ_=>True) m)(hmost:most<=4294967296\/(Yk n m O).length<=4294967296):Cp n m O most=C ((Yk n m O).take most.toNat):=by
 have key:Qg (Cp n m O most) λr=>r=(Yk n m O).take most.toNat:=by
  unfold Cp;refine T1 (λhc=>T2 ?_) λhc=>?_
  ·simp only[KW,Qx]at hc;rcases hc with hc | hc | hc
   ·unfold Yk idx;rw[if_neg (by omega)];simp
   ·unfold Yk idx;rw[if_pos (by omega),Zv (by omega)];simp
   rw[show most.toNat=0 by omega,List.take_zero]
  simp only[JT,QS]at hc;refine T0 (T4 (by omega) (by omega)).self λe he=>?_;have hv:=(h.tk e he.2).1;refine T0 (T5 (by simp only[QJ,Qx];omega)) λ_ _=>?_;obtain⟨c1,r1⟩:=PV e.Join e.Ins.length;obtain⟨c2,r2⟩:=PV e.Split e.Outs.length;rw[QcT,c1,Qa,QcT,c2,Qa];have hsz:(XS n e).length=e.Vars.length:=by simp[XS]
  have hml:Yk n m O=(binds (XS n e)).flatMap (DV n m O (El e.Join e.Ins.length) (El e.Split e.Outs.length)):=by
   unfold Yk;rw[he.1]
  have hrd:∀p:LI_,p.length<=20->DV n m O (El e.Join e.Ins.length) (El e.Split e.Outs.length) p=_:=λp hp=>QuV h hm he.1 hp;rw[hml]at hmost ⊢;generalize hrl:DV n m O (El e.Join e.Ins.length) (El e.Split e.Outs.length)=rl at hmost hrd ⊢;refine T0 (Qpt (λst:Bool×LI_×L_ Qc=>bif st.1 then(Jz (XS n e) st.2.1).length+1 else 0)
   (λst=>(st.1=true->st.2.1.length=e.Vars.length/\(∀d∈st.2.1,0<=d/\d<=1024)/\(st.2.2.length:Int)<most/\Jf most.toNat st.2.2 ((st.2.1::Jz (XS n e) st.2.1).flatMap rl)=Jf most.toNat [] ((binds (XS n e)).flatMap rl)/\st.2.2.length+((st.2.1::Jz (XS n e) st.2.1).flatMap rl).length=((binds (XS n e)).flatMap rl).length)/\
    (st.1=false->Sum.inr st.2.2=Jf most.toNat [] ((binds (XS n e)).flatMap rl)))
   (Q:=λq:L_ Qc⊕L_ Qc=>q=Jf most.toNat [] ((binds (XS n e)).flatMap rl)) ⟨λ_=>⟨by simp,λd hd=>by have:=Zu hd;omega,by simp;omega,?_⟩,λh=>(by cases h)⟩ (λst hJ=>?_)) (λq hq=>?_)
  ·show Jf most.toNat [] ((List.replicate (e.Vars.length:Int).toNat 0::Jz (XS n e) (List.replicate (e.Vars.length:Int).toNat 0)).flatMap rl)=_/\0+((List.replicate (e.Vars.length:Int).toNat 0::Jz (XS n e) (List.replicate (e.Vars.length:Int).toNat 0)).flatMap rl).length=_;rw[QeH (XS n e),Ln,hsz,Xs,Ui];exact⟨rfl,rfl⟩
  ·obtain⟨mo,d,l⟩:=st;obtain⟨hT,hF⟩:=hJ;show Qg (Px (El e.Join e.Ins.length) (El e.Split e.Outs.length) n m O most e mo d l) _;unfold Px;cases mo with
   | false=>exact T2 ⟨λs' e=>(by cases e),λq eq=>(by cases eq;exact hF rfl)⟩
   | true=>
    obtain⟨j1,j2,j3,j4,j5⟩:d.length=e.Vars.length/\(∀d'∈d,0<=d'/\d'<=1024)/\(l.length:Int)<most/\Jf most.toNat l ((d::Jz (XS n e) d).flatMap rl)=Jf most.toNat [] ((binds (XS n e)).flatMap rl)/\l.length+((d::Jz (XS n e) d).flatMap rl).length=((binds (XS n e)).flatMap rl).length:=hT rfl;rw[UE,Jp]at j5;rw[Ql,QuW h hr hm r1 r2 (by omega) (by omega) (by rw[<-hrd d (by omega)];omega),<-hrd d (by omega),Qa];rw[UE,QiO]at j4;cases hrr:Jf most.toNat l (rl d)with
    | inl r=>
     rw[hrr]at j4;exact T2 ⟨λs' e=>(by cases e),λq eq=>(by cases eq;exact j4)⟩
    | inr r=>
     rw[hrr]at j4;have hacc:=Qnq hrr;have hlen:=congrArg List.length (QiP hrr);rw[Jp]at hlen;replace j4:Jf most.toNat r ((Jz (XS n e) d).flatMap rl)=Jf most.toNat [] ((binds (XS n e)).flatMap rl):=j4;show Qg (Pw e n d r) _;unfold Pw;rw[QuX h hr];refine T0 (Qpu e n d h.k j1 hv j2) λq hq=>?_;obtain⟨a,d2⟩:=q;obtain⟨⟨q1,q2,q3⟩,q4,q5⟩:(-1<=a/\a<d.length/\d2=d.take (a+1).toNat++List.replicate (d.length-(a+1).toNat) 0)/\(∀(j:Nat) x s,a<(j:Int)->d[j]? = C x->(XS n e)[j]? = C s->¬x+1<s)/\∀x s,0<=a->d[a.toNat]? = C x->(XS n e)[a.toNat]? = C s->x+1<s/\x<1024:=hq;have hnx:=Qnp (XS n e) d;show Qg (Pv r a d2) _;unfold Pv;by_cases ha:0<=a
     ·have hlt:a.toNat<d.length:=by omega
      have hls:a.toNat<(XS n e).length:=by omega
      have ed:idx d2 a=C d[a.toNat]:=by
       rw[YI (by omega),q3,Jo (by simp;omega),KA,if_pos (by omega),Qp hlt]
      rw[Qt ha,Ql,ed,Qa,Qa];have h9:=q5 _ _ (by omega) (Qp hlt) (Qp hls);have h10:=j2 _ (Xn hlt);rw[Xh (by omega)];have e3:d2.set a.toNat (d[a.toNat]+1)=d.take a.toNat++(d[a.toNat]+1)::List.replicate (d.length-(a.toNat+1)) 0:=by
       rw[q3,show(a+1).toNat=a.toNat+1 by omega,QlR hlt]
      rw[e3];have hd3:∀x∈d.take a.toNat++(d[a.toNat]+1)::List.replicate (d.length-(a.toNat+1)) 0,0<=x/\x<=1024:=λx hx=>by
       rcases XU.1 hx with hx | hx
       ·exact j2 x (Cu hx)
       rcases XV.1 hx with rfl | hx
       ·omega
       have:=Zu hx;omega
      have hlen2:(d.take a.toNat++(d[a.toNat]+1)::List.replicate (d.length-(a.toNat+1)) 0).length=e.Vars.length:=by simp;omega
      rw[Qsm a.toNat (XS n e) d _ _ (by omega) (Qp hlt) (Qp hls) h9.1 λj y z hj=>q4 j y z (by omega)]at hnx;simp only at hnx;rw[hnx]at j4;exact T2 ⟨λs' e'=>(by
       cases e';refine⟨?_,λ_=>⟨hlen2,hd3,by show(r.length:Int)<most;omega,j4,by show r.length+(List.flatMap rl (_::_)).length=_;rw[<-hnx];omega⟩,λh=>(by cases h)⟩;show(Jz (XS n e) (d.take a.toNat++(d[a.toNat]+1)::List.replicate (d.length-(a.toNat+1)) 0)).length+1<(Jz (XS n e) d).length+1;rw[hnx,We];omega),λq e'=>(by cases e')⟩
     rw[Qz ha,Qi];refine T2 ⟨λs' e'=>(by
      cases e';refine⟨?_,(λh=>by cases h),λ_=>?_⟩
      ·show 0<(Jz (XS n e) d).length+1;omega
      rw[Qh9 (XS n e) d λj x s=>q4 j x s (by omega)]at hnx;simp only at hnx;rw[hnx,List.flatMap_nil,SU hacc]at j4;exact j4),λq e'=>(by cases e')⟩
  rw[<-Qq6 (by omega:0<most.toNat),<-hq];rcases q with q | q<;>exact T2 rfl
 obtain⟨r,h1,h2⟩:=key;rw[h1,h2]
def Qtt (h:QT n)(hr:RN n){m:L_ QBg}(hm:QP (QP λ_=>True) m)(hmost:most<=4294967296\/(Yk n m O).length<=4294967296):Cp n m O most=Hb n m O most:=by
 rw[Qr5 h hr hm hmost,Qgp n m O most h hm hmost]
def Qro (h:QT n)(hr:RN n){m:L_ QBg}(hm:QP (QP λ_=>True) m)(hi:XI most)(hb:most<=4294967296\/∀k:Nat,(Yk n m (k:Int)).length<=4294967296):PS n m most=Cz n m most:=by
 unfold PS Cz;have mx:(12:Nat)<=maxLen:=by decide
 have htl:=h.tl;unfold XI at hi;have e:Qh (λst:Int×L_ Qc=>OC n m most st.1 st.2) (0,[])=Qh (λst:Int×L_ Qc=>Eg n m most st.1 st.2) (0,[]):=by
  have hms:∀(i:Nat) (l:L_ Qc),(l.length:Int)<=max most 0->Qe (most-(l.length:Int))<=4294967296\/(Yk n m (i:Int)).length<=4294967296:=λi l hl=>by
   rcases hb with hb | hb
   ·left;by_cases h0:0<=most
    ·rw[Xh (by omega)];omega
    rw[Xh (by omega)];omega
   exact .inr (hb i)
  refine Qal n.Tasks.length (λi s=>s.1=(i:Int)/\(s.2.length:Int)<=max most 0) (λi s hI=>?_) (λi s s' hI O=>?_) _ ⟨rfl,by simp;omega⟩
  ·obtain⟨x,l⟩:=s;obtain⟨h1,h2⟩:=hI;replace h1:x=(i:Int):=h1;subst h1;replace h2:(l.length:Int)<=max most 0:=h2;show OC n m most i l=Eg n m most i l;unfold OC Eg;rw[Qtt h hr hm (hms i l h2)]
  obtain⟨x,l⟩:=s;obtain⟨h1,h2⟩:=hI;replace h1:x=(i:Int):=h1;subst h1;replace h2:(l.length:Int)<=max most 0:=h2;replace O:Eg n m most i l=C (.inl s'):=O;unfold Eg at O;rcases Ye O with⟨c,O⟩|⟨_,O⟩
  ·have hlt:i<n.Tasks.length:=by simpa using c
   rw[Qgp n m i _ h hm (hms i l h2),Qa]at O;obtain⟨_,_,O⟩:=QU O;cases O;refine⟨hlt,Qj hlt (by omega),?_⟩;show((l++(Yk n m (i:Int)).take (Qe (most-(l.length:Int))).toNat).length:Int)<=_;have:=List.length_take_le (Qe (most-(l.length:Int))).toNat (Yk n m (i:Int));rw[Jp];by_cases h0:0<=most
   ·rw[Xh (by omega)]at this ⊢;omega
   rw[Xh (by omega)]at this ⊢;omega
  cases O
 rw[e];all_goals rfl
def QuY {α:Type}(l:L_ α):BT (λ_ _=>false) 0 l=false:=Qbk.2 λ_ _ _=>rfl
def Qtu {l:L_ Qc}(hl:l.length<=maxLen)(h:∀o∈l,Yf n o):RH l l=C true:=by
 have mx:(20:Nat)<=maxLen:=by decide
 unfold RH;rw[show((l.length:Int) != (l.length:Int))=false by simp,Qi,SH (body:=λst=>ES l l st) (l:=l) (λi=>(i:Int)) (λ_ _=>false) (.inl ()) (.inr ()) (λi x hi O=>by
  show ES l l i=_;unfold ES QcM Qd1 Qd2;obtain⟨h1,h2,h3⟩:=h x (Xt O);rw[Qt (by omega),Ql,Qs,O,Qa,Qa,show(x.Task==x.Task)=true by simp,QiQ _ _ (by omega),QiQ _ _ (by omega),QiQ _ _ (by omega),Qj hi hl];simp) (by
  show ES l l l.length=_;unfold ES;rw[Qz (by omega),Qi]) (s0:=0) rfl,QuY]
 rfl
def QuZ {a:QBg}(h:a.length+b.length<=4294967290):Ht a b=JL a b:=by
 unfold Ht QdJ QdK;have ha:a.length<=maxLen:=by unfold maxLen;omega
 have hb:b.length<=maxLen:=by unfold maxLen;omega
 rw[HL ha,HL hb,Qa,ZQ hb ha];obtain⟨w,hw,hw2⟩:=Fb b a hb ha;rw[hw];rcases Lt a b (by omega)with⟨O,h2⟩|⟨O,h2,⟨k,h3⟩,h4⟩|⟨O,h2,h3,r,h4,h5,h6,h7⟩
 ·rw[h2,<-YV,<-YV]at *;cases ra:Ek (-1) a with
  | false=>rfl
  | true=>
   cases rb:Ek (-1) b with
   | false=>rfl
   | true=>exact absurd ⟨ra,rb⟩ O
 ·rw[YV.2 O,YV.2 h2,h4];have:w=false:=by
   cases w with
   | false=>rfl
   | true=>have:=(hw2.1 rfl).2.2 k;omega
  rw[this];rfl
 rw[YV.2 O,YV.2 h2,hw2.2 ⟨h2,O,h3⟩,h4];simp only[JD,Qi,Qa,LW,NF,Ui];rw[YR (by omega),Qa];obtain⟨q,hq,hp1,hp2⟩:=JC (body:=λst:Int×QBg=>US b a st.1 st.2) b.length
  (λi s=>s.1=(i:Int)/\Rt s.2/\(∀k,QH s.2 k=QH a k-QH (b.take i) k)/\s.2.length<=a.length+i)
  (λq=>Rt q/\∀k,QH q k=QH a k-QH b k) (λi s hi hI=>by
   obtain⟨x,out⟩:=s;obtain⟨g1,g2,g3,g4⟩:=hI;replace g1:x=(i:Int):=g1;subst g1;replace g2:Rt out:=g2;replace g3:∀k,QH out k=QH a k-QH (b.take i) k:=g3;replace g4:out.length<=a.length+i:=g4;have hx:b[i]? = C b[i]:=Qp hi;have hbi:=h2.2 _ (Xn hi);left;show ∃s',US b a i out=_/\_;unfold US;rw[Qt (by omega),Ql,Qs,hx];simp only[Qa];have hc:=O.cnt b[i].1;have hle:=h3 b[i].1;rw[ET h2.1.nd (Xn hi)]at hle;rw[Qis ha O,Qa,Xh (by omega)];obtain⟨r',r1,r2,r3,r4⟩:=Qrk (b:=out) (by omega) g2 (m:=b[i].1) (n:=QH a b[i].1-b[i].2) (by omega) (by omega);rw[r1,Qa];refine⟨_,rfl,Qj hi hb,r2,λk=>?_,by show r'.length<=_;omega⟩;show QH r' k=_;rw[r3,Qrl h2.1 hi,g3];by_cases ek:k=b[i].1
   ·subst ek;rw[if_pos rfl,if_pos rfl]
   ·rw[if_neg ek,if_neg ek]) (λs hI=>by
   obtain⟨x,out⟩:=s;obtain⟨g1,g2,g3,g4⟩:=hI;replace g1:x=(b.length:Int):=g1;subst g1;rw[UG]at g3;refine⟨out,?_,g2,g3⟩;show US b a b.length out=_;unfold US;rw[Qz (by omega)];rfl) (0,a) ⟨rfl,O,λk=>by simp[QH,Qr],by simp⟩
 rw[hq];have:q=r:=rt_ext hp1 h5 λk=>by rw[hp2,h6]
 subst this;rfl
def Qrp {a b:L_ QBg}{sum:Bool}{how:QBg->QBg->O_ (QBg×Int)}{body:Int×L_ QBg->O_ ((Int×L_ QBg)⊕(Int⊕L_ QBg))}(N:Nat)(hN:N<=100000)(ha:N<=a.length)(hb:N<=b.length)(hab:N=a.length\/N=b.length)
  (hh:∀x∈a,∀y∈b,(bif sum then AS x y else Ht x y)=how x y) (ht:∀x∈a,∀y∈b,∃z,how x y=C z)
  (hbody:∀(i:Nat) l,body ((i:Int),l)=bif decide ((i:Int)<(N:Int))then(idx a i).bind λx=>(idx b i).bind λy=>(how x y).bind λz=>(idx l i).bind λ_=>bif (z.2 != 0)then C (.inr (.inl z.2))else C (.inl (Qe ((i:Int)+1),l.set i z.1))else C (.inr (.inr l))):
  Qh (λst:Int×L_ QBg=>UT a b sum st.1 st.2) (0,[])=Qh body (0,List.replicate N []):=by
 have mx:(100000:Nat)<=maxLen:=by decide
 obtain⟨r,q,e1,e2,e3⟩:=QcU (b1:=λst:Int×L_ QBg=>UT a b sum st.1 st.2) (b2:=body) N
  (λi s t=>s.1=(i:Int)/\s.2.length=i/\t=((i:Int),s.2++List.replicate (N-i) [])) (λr q=>r=q) (λi s t hi hI=>by
   obtain⟨x,out⟩:=s;obtain⟨h1,h2,rfl⟩:=hI;replace h1:x=(i:Int):=h1;subst h1;replace h2:out.length=i:=h2;show(i<N/\∃s' t',UT a b sum i out=_/\body ((i:Int),out++List.replicate (N-i) [])=_/\_)\/∃r q,UT a b sum i out=_/\body ((i:Int),out++List.replicate (N-i) [])=_/\_;rw[hbody];unfold UT MB;by_cases hlt:i<N
   ·have i1:i<a.length:=by omega
    have i2:i<b.length:=by omega
    obtain⟨z,hz⟩:=ht _ (Xn i1) _ (Xn i2);have h:=hh _ (Xn i1) _ (Xn i2);rw[hz]at h;have hrep:List.replicate (N-i) ([]:QBg)=[]::List.replicate (N-(i+1)) []:=by
     rw[show N-i=(N-(i+1))+1 by omega];rfl
    rw[Qt (by omega:(i:Int)<(a.length:Int)),Qt (by omega:(i:Int)<(b.length:Int)),Qt (by omega:(i:Int)<(N:Int)),Zs,Ql,Ql,Qs,Qp i1,Qs,Qp i2,Qs,hrep,Kn (by omega),h2,Tf];simp only[Qa,hz,Ql2];have one:(bif sum then(AS a[i] b[i]).bind λO=>bif (O.2 != 0)then C (.inr (.inl O.2))else(chk (decide (i+[O.1].length<=4294967296))).bind λ_=>C (.inl (Qe ((i:Int)+1),out++[O.1]))else(Ht a[i] b[i]).bind λx27=>bif (x27.2 != 0)then C (.inr (.inl x27.2))else(chk (decide (i+[x27.1].length<=4294967296))).bind λ_=>C (.inl (Qe ((i:Int)+1),out++[x27.1])):O_ ((Int×L_ QBg)⊕(Int⊕L_ QBg)))=bif (z.2 != 0)then C (.inr (.inl z.2))else(chk (decide (i+[z.1].length<=4294967296))).bind λ_=>C (.inl (Qe ((i:Int)+1),out++[z.1])):=by
     cases sum with
     | true=>simp only[Ql]at h ⊢;rw[h];rfl
     | false=>simp only[Qi]at h ⊢;rw[h];rfl
    rw[one];cases (z.2 != 0)with
    | true=>exact .inr ⟨_,_,rfl,rfl,rfl⟩
    | false=>
     left;rw[Qi,Qi,YR (by simp;omega)];refine⟨hlt,_,_,rfl,rfl,Qj hlt (by omega),by simp;omega,?_⟩;rw[Qj hlt (by omega),QiC _ _ (by omega),h2,Tf,Dz];rfl
   right;have hf:(decide ((i:Int)<(a.length:Int))&&decide ((i:Int)<(b.length:Int)))=false:=by
    rcases hab with e | e
    ·rw[Qz (by omega:¬(i:Int)<(a.length:Int))];rfl
    rw[Qz (by omega:¬(i:Int)<(b.length:Int)),Bool.and_false]
   rw[hf,Qz (by omega:¬(i:Int)<(N:Int))];exact⟨_,_,rfl,rfl,by rw[show N-i=0 by omega];simp⟩) (0,[]) (0,List.replicate N []) ⟨rfl,rfl,rfl⟩
 rw[e1,e2,e3]
def Qgu (a b:Nat):min2 (a:Int) (b:Int)=((min a b:Nat):Int):=by
 unfold min2;split<;>omega
def Qwf {a b:L_ QBg}(hl:a.length<=100000)(h:∀x∈a,∀y∈b,x.length+y.length<=4294967290):Bt a b true=KF a b:=by
 unfold Bt KF;rw[Qgu,GV (by simp;omega),Qa,Xs];rw[Qrp (sum:=true) (how:=Jt) (body:=λst:Int×L_ QBg=>Jq a b st.1 st.2) (min a.length b.length) (by omega) (by omega) (by omega) (by omega) (λx O y hy=>QlT (h x O y hy)) (λx O y hy=>by
  rcases UA x y (by have:=h x O y hy;omega)with⟨_,e⟩|⟨_,_,_,e⟩|⟨_,_,r,e,_⟩<;>exact⟨_,e⟩) (λi l=>by
  show Jq a b i l=_;unfold Jq;rw[Qgu,Xs,Tc,Xs])]
 cases Qh (λst:Int×L_ QBg=>Jq a b st.1 st.2) (0,List.replicate (min a.length b.length) [])with
 | none=>rfl
 | some q=>cases q<;>rfl
def Qu0 {a b:L_ QBg}(hl:a.length<=100000)(h:∀x∈a,∀y∈b,x.length+y.length<=4294967290):Bt a b false=Gb a b:=by
 unfold Bt Gb;rw[Qgu,GV (by simp;omega),Qa,Xs];rw[Qrp (sum:=false) (how:=JL) (body:=λst:Int×L_ QBg=>KE a b st.1 st.2) (min a.length b.length) (by omega) (by omega) (by omega) (by omega) (λx O y hy=>QuZ (h x O y hy)) (λx O y hy=>by
  rcases Lt x y (by have:=h x O y hy;omega)with⟨_,e⟩|⟨_,_,_,e⟩|⟨_,_,_,r,e,_⟩<;>exact⟨_,e⟩) (λi l=>by
  show KE a b i l=_;unfold KE;rw[Qgu,Xs,Tc,Xs])]
 all_goals cases Qh (λst:Int×L_ QBg=>KE a b st.1 st.2) (0,List.replicate (min a.length b.length) [])with
 | none=>rfl
 | some q=>cases q<;>rfl
def Qtv (h:QT n){m:L_ QBg}(hm:QP (QP λ_=>True) m)(ho:Yf n o)(hc:YD n m o=C 0):∃need,DT n o=C (need,0):=by
 obtain⟨_,e,he,_,_,_,b,b1,b2,O,b4⟩:=HK.1 ((Qea h hm ho).1 hc);obtain⟨k1,k2,k3,k4,k5,k6⟩:=OS h b1;unfold DT;rw[k6,k1];unfold Xx at O;rw[k3]at O;obtain⟨x,hx,O⟩:=QU O;rcases Ye O with⟨c,O⟩|⟨c,_⟩
 ·rw[Option.some.inj O]at c;cases c
 refine⟨x.1,?_⟩;simp only[Qa,show((0:Int) != 0)=false from rfl,Qi];rw[hx];have:x.2=0:=by simpa using c
 show C (x.1,x.2)=_;rw[this]
def Qu1 (h:QT n)(hr:RN n)(hc:c<=900000){m:L_ QBg}(hm:Kr n c m)(ho:Yf n o):Vi n m o=Ud n m o:=by
 unfold Vi Ud;have hml:=hm.len h (by omega);rw[Qgr h hr hml ho];obtain⟨x,hx,_⟩:=Qfq n m o h hml ho;rw[hx,Qa,Qa];cases hz:(x != 0)with
 | true=>rfl
 | false=>
  have:x=0:=by simpa using hz
  subst this;obtain⟨need,O⟩:=Qtv h hml ho hx;have hn:=(EU (Qo2 n o h ho) O rfl).1;rw[Qi,Qi,QnJ h hr ho,O,Qa,Qa];simp only[show((0:Int) != 0)=false from rfl,Qi];rw[Qu0 (by have:=hm.1;have:=h.pl;omega) λx hx y hy=>by
   have:=(hm.2 x hx).2;have:=(hn.2 y hy).2;omega]
def Qwg (h:QT n)(hr:RN n)(O:Yf n o):Cn n o=Nl n o:=QnK h hr O
def Qr6 (e:QF)(m:L_ QBg):Qh (λst:Int×L_ QBg=>MC e st.1 st.2) (0,m)=Qh (λst:Int×L_ QBg=>Ji e st.1 st.2) (0,m):=by
 have h:(λst:Int×L_ QBg=>MC e st.1 st.2)=λst=>Ji e st.1 st.2:=by
  funext st;unfold MC Ji QdM QdN;cases decide (st.1<(e.Cancel.length:Int))with
  | false=>rfl
  | true=>
   rw[Ql,Ql];cases idx e.Cancel st.1 with
   | none=>rfl
   | some k=>
    simp only[Qa];cases decide (0<=k)with
    | false=>rfl
    | true=>
     cases decide (k<(st.2.length:Int))with
     | false=>rfl
     | true=>rfl
 rw[h]
def Qtw {m q:L_ QBg}(hc:e.Cancel.length<=16)(hm:∀b∈m,b.length<=c)(h:Qh (λst:Int×L_ QBg=>Ji e st.1 st.2) (0,m)=C q):q.length=m.length/\∀b∈q,b.length<=c:=by
 have key:Qg (Qh (λst:Int×L_ QBg=>Ji e st.1 st.2) (0,m)) λq=>q.length=m.length/\∀b∈q,b.length<=c:=by
  refine Qg.up e.Cancel.length (λst=>st.1) (λst=>st.2.length=m.length/\∀b∈st.2,b.length<=c) rfl ⟨rfl,hm⟩ (λi st hi hn hJ=>?_);obtain⟨x,l⟩:=st;replace hi:x=(i:Int):=hi;subst hi;obtain⟨j1,j2⟩:l.length=m.length/\∀b∈l,b.length<=c:=hJ;show Qg (Ji e i l) _;unfold Ji Gr;refine T1 (λO=>?_) λ_=>T2 (Qn ⟨j1,j2⟩);simp only[Qx]at O;have hw:Qe ((i:Int)+1)=((i+1:Nat):Int):=Qj (show i<e.Cancel.length by omega) (by unfold maxLen;omega);refine T0 (T4 (by omega) O) λk _=>?_;refine T1 (λhk=>?_) λ_=>T2 (QG ⟨by omega,hw,j1,j2⟩);simp only[QJ,Qx]at hk;refine T0 (T4 hk.1 hk.2) λ_ _=>T2 (QG ⟨by omega,hw,by simpa using j1,λb hb=>?_⟩);rcases Zl hb with rfl | hb
  ·simp
  exact j2 b hb
 exact EU key h
def Qu2 (h:QT n)(hr:RN n)(hc:c<=900000){m:L_ QBg}(hm:Kr n c m)(ho:Yf n o):Vk n m o=GG n m o:=by
 unfold Vk GG;rw[Qwg h hr ho];obtain⟨x,hx,hx2⟩:=Qo3 n o h ho;rw[hx,Qa,Qa];cases hz:(x.2 != 0)with
 | true=>rfl
 | false=>
  obtain⟨⟨g1,_⟩,g2,g3⟩:=hx2 (by simpa using hz);have hpl:=h.pl;have hml:=hm.1;have hmem:(n.Tasks[o.Task.toNat]'(by omega))∈n.Tasks:=Xn _;rw[Qi,Qi,YR (by simp;omega),Qa,Hz m (by omega) λb O=>by have:=(hm.2 b O).2;omega,Qa,PT g2 g3,Qa,Qa,LW,Qr6];cases hq:Qh (λst:Int×L_ QBg=>Ji (n.Tasks[o.Task.toNat]'(by omega)) st.1 st.2) (0,m)with
  | none=>rfl
  | some q=>
   obtain⟨q1,q2⟩:=Qtw (h.tk _ hmem).2.2.2 (λb O=>(hm.2 b O).2) hq;rw[Qa,Qa];unfold QdO EG;rw[Qwf (by omega) λa ha b O=>by
    have:=q2 a ha;have:=(g1.2 b O).2;omega]
def Qsw (h:QT n)(hr:RN n)(hc:c<=800000){m:L_ QBg}(hm:Kr n c m)(O:Yf n o):Vl n m o=Yg n m o:=by
 unfold Vl Yg;rw[Qu1 h hr (by omega) hm O];obtain⟨x,hx,hx2⟩:=Qre n m o c h hm (by omega) O;rw[hx,Qa,Qa];cases hz:(x.2 != 0)with
 | true=>rfl
 | false=>rw[Qi,Qi,Qu2 h hr (c:=c+20) (by omega) (hx2 (by simpa using hz)) O]
def BI : LI_->Nat
 | []=>1
 | s::r=>(1+(s-1).toNat)*BI r
def QcW {α β:Type}{f:α->L_ β}:∀{l:L_ α},(∀x∈l,(f x).length<=c)->(l.flatMap f).length<=l.length*c:=by
 intro l
 induction l with
 | nil=>intro _;simp
 | cons x l ih=>
  intro h;have h1:=ih λy O=>h y (Yb _ O);have h2:=h x XD;rw[UE,Jp,We,Nat.succ_mul];omega
def Qxm (x:Int)(k:Nat):(upL x k).length=k:=by
 induction k generalizing x with
 | zero=>rfl
 | succ k h=>simp[upL,h]
def Qu3 (l:LI_):(binds l).length<=BI l:=by
 induction l with
 | nil=>exact Yx _
 | cons s r h=>
  rw[binds,BI];have:=QcW (f:=λx=>(binds r).map (x::·)) (c:=BI r) (l:=0::upL 1 (s-1).toNat) λx _=>by simpa using h
  rw[We,Qxm]at this;rwa[Nat.add_comm 1]
def Qu4 (l:LI_)(s:Int):BI (l++[s])=BI l*(1+(s-1).toNat):=by
 induction l with
 | nil=>simp[BI]
 | cons x l h=>simp only[Qfw,BI,h,Nat.mul_assoc]
def Qu5 (l:LI_):0<BI l:=by
 induction l with
 | nil=>decide
 | cons s r h=>exact Nat.mul_pos (by omega) h
def Qu6 (n:Qd)(m:L_ QBg)(h:Int){O outs:L_ LI_}(p:LI_)(hi:O.length<=16)(ho:outs.length<=16):(DV n m h O outs p).length<=256:=by
 unfold DV;cases YZ n m h p with
 | none=>simp
 | some x=>
  obtain⟨c,b⟩:=x;simp only;split
  ·refine XZ (QcW (c:=16) λe _=>?_) (Jx 16 hi);split
   ·rw[EY];exact XZ (LV _ _) ho
   simp
  simp
def Bd (n:Qd):Prop:=∀t∈n.Tasks,(0:Int)∈XS n t\/BI (XS n t)<=1024
def Qit (m:L_ QBg)(O:Int)(h:QT n)(hb:Bd n):(Yk n m O).length<=262144:=by
 by_cases e0:Yk n m O=[]
 ·rw[e0];simp
 obtain⟨o,ho⟩:=List.exists_mem_of_ne_nil _ e0;obtain⟨_,e,he,_,_,_,b,hbd,_⟩:=HK.1 ho;obtain⟨k1,k2,_,_,k3,_⟩:=OS h hbd;rw[he]at k1;cases k1;unfold Yk;rw[he];simp only;refine XZ (QcW (c:=256) λp _=>Qu6 n m O p (PV _ _).2.1 (PV _ _).2.1) ?_;have h1:=Qu3 (XS n b.task);rcases hb _ k2 with h2 | h2
 ·have:=k3.2 0 h2;omega
 omega
def QiR (m:L_ QBg)(h:QT n)(O:Bd n):(Ja n m).length<=4194304:=by
 unfold Ja;refine XZ (QcW (c:=262144) λk _=>Qit m _ h O) ?_;have:=h.tl;rw[Qa4];omega
def Qtx (n:Qd)(k:Int)(t:QF)(b:Int)(h:QT n)(ht:idx n.Tasks k=C t)(htm:t∈n.Tasks)(hb:Gd n k=C b)(hle:b<=1024):(0:Int)∈XS n t\/BI (XS n t)<=1024:=by
 have hv:=(h.tk t htm).1;have hsz:(XS n t).length=t.Vars.length:=by simp[XS]
 have ha:JR n.Tasks k=C true:=by
  unfold JR;unfold idx at ht;split at ht
  ·have:=(QX.1 ht).1;rw[Qt (by omega),Qt (by omega)];rfl
  cases ht
 have key:Qg (Gd n k) λb=>b<=1024->(0:Int)∈XS n t\/BI (XS n t)<=1024:=by
  unfold Gd;rw[ha,Qa];simp only[JD,Qi];rw[ht,Qa];refine T0 (Qg.up t.Vars.length (λst=>st.2) (λst=>st.1=min ((BI ((XS n t).take st.2.toNat):Nat):Int) 1025) (Q:=λq:Unit⊕Int=>(q=.inl ()->(0:Int)∈XS n t)/\∀o,q=.inr o->o=min ((BI (XS n t):Nat):Int) 1025) rfl (by show(1:Int)=min ((1:Nat):Int) 1025;omega) (λi st hi hn hJ=>?_)) (λq hq=>?_)
  ·obtain⟨out,x⟩:=st;replace hi:x=(i:Int):=hi;subst hi;replace hJ:out=min ((BI ((XS n t).take (i:Int).toNat):Nat):Int) 1025:=hJ;rw[Xs]at hJ;show Qg (Bn t n out i) _;unfold Bn;refine T1 (λhc=>?_) (λhc=>T2 (Qn ⟨λe=>(by cases e),λo e=>?_⟩))
   ·simp only[Qx]at hc;have i1:i<t.Vars.length:=by omega
    rw[Qs,Qp i1,Qa];refine T0 (DG _ _ h.k.1).self λz hz=>?_;obtain⟨hze,hz⟩:=hz;have hs:(XS n t)[i]? = C z:=by
     unfold XS;rw[Yn,Qp i1,Ki,hze];rfl
    refine T1 (λO=>T2 (Qn ⟨λ_=>?_,λo e=>by cases e⟩)) λO=>?_
    ·simp only[beq_iff_eq]at O;subst O;exact Xt hs
    simp only[beq_eq_false_iff_ne]at O;have hw:Qe ((i:Int)+1)=((i+1:Nat):Int):=Qj i1 (by unfold maxLen;omega:t.Vars.length<=maxLen);refine T2 (QG ⟨i1,hw,?_⟩);show min2 (Qe (out*z)) 1025=min ((BI ((XS n t).take (Qe ((i:Int)+1)).toNat):Nat):Int) 1025;rw[hw,Xs,UF,hs];show _=min ((BI ((XS n t).take i++[z]):Nat):Int) 1025;rw[Qu4];have hp:=Qu5 ((XS n t).take i);generalize BI ((XS n t).take i)=P at hJ hp ⊢;obtain⟨Z,rfl⟩:∃Z:Nat,z=(Z:Int):=⟨z.toNat,by omega⟩;rw[show 1+((Z:Int)-1).toNat=Z by omega];have hZ:0<Z:=by omega
    have h1:(P:Int)*(Z:Int)=((P*Z:Nat):Int):=by simp
    by_cases c:P<=1025
    ·have:out=(P:Int):=by rw[hJ];omega
     rw[this,h1];have h2:P*Z<=1025*1024:=Nat.mul_le_mul c (by omega);rw[Xh (by omega)];unfold min2;split<;>omega
    have:out=1025:=by rw[hJ];omega
    have h2:P<=P*Z:=Nat.le_mul_of_pos_right P hZ;rw[this,Xh (by omega)];unfold min2;split<;>omega
   cases e;simp only[QS]at hc;rw[hJ,JE (by omega)]
  rcases q with q | q
  ·exact T2 λ_=>.inl (hq.1 rfl)
  refine T2 λhl=>.inr ?_;have:=hq.2 q rfl;omega
 exact EU key hb hle
def Qty (n1:Qd)(k2:Int)(h:KU n1 k2=C 0):∃b,Gd n1 k2=C b/\b<=1024:=by
 unfold KU at h;obtain⟨x5,_,h⟩:=QU h;rcases Ye h with⟨_,h⟩|⟨_,h⟩
 ·cases h
 obtain⟨x7,_,h⟩:=QU h;rcases Ye h with⟨c,h⟩|⟨_,h⟩
 ·simp only[Option.some.injEq]at h;rw[h]at c;cases c
 obtain⟨e9,he9,h⟩:=QU h;obtain⟨e10,he10,h⟩:=QU h;obtain⟨_,_,h⟩:=QU h;obtain⟨_,_,h⟩:=QU h;obtain⟨_,_,h⟩:=QU h;obtain⟨_,_,h⟩:=QU h;obtain⟨x15,O,h⟩:=QU h;have bad:∀a b:Int,0<a->x15=(a,b)->False:=λa b ha e=>by
  subst e;simp only at h;rcases Ye h with⟨c,h⟩|⟨_,h⟩
  ·simp only[beq_iff_eq]at c;omega
  simp only[Option.some.injEq]at h;omega
 unfold EH at O;obtain⟨x20,_,O⟩:=QU O;rcases Ye O with⟨_,O⟩|⟨_,O⟩
 ·exact(bad _ _ (by decide) (Option.some.inj O).symm).elim
 obtain⟨x22,_,O⟩:=QU O;rcases Ye O with⟨_,O⟩|⟨_,O⟩
 ·exact(bad _ _ (by decide) (Option.some.inj O).symm).elim
 obtain⟨x24,h24,O⟩:=QU O;rcases Ye O with⟨_,O⟩|⟨c,O⟩
 ·exact(bad _ _ (by decide) (Option.some.inj O).symm).elim
 obtain⟨x26,h26,O⟩:=QU O;rcases Ye O with⟨c2,O⟩|⟨_,O⟩
 ·have e:=(Option.some.inj O).symm;subst e;simp only at h;rcases Ye h with⟨_,h⟩|⟨c3,_⟩
  ·simp only[Option.some.injEq]at h;unfold CK at h26;obtain⟨y,_,h26⟩:=QU h26;simp only[Option.some.injEq]at h26;rw[<-h26]at c2 h;simp only at h;subst h;cases c2
  cases c3
 obtain⟨x28,h28,O⟩:=QU O;rcases Ye O with⟨_,O⟩|⟨c4,O⟩
 ·exact(bad _ _ (by decide) (Option.some.inj O).symm).elim
 unfold Hk at h28;obtain⟨b,hb,h28⟩:=QU h28;simp only[Option.some.injEq]at h28;rw[<-h28]at c4;exact⟨b,hb,by simpa using c4⟩
def Qyg (n1:Qd)(h:QT n1){p:ZC}(O:AR n1=C (0,p)):Bd n1:=by
 unfold AR at O;obtain⟨x6,_,O⟩:=QU O;rcases Ye O with⟨c,O⟩|⟨_,O⟩
 ·simp only[Option.some.injEq,Prod.mk.injEq]at O;rw[O.1]at c;cases c
 obtain⟨x8,_,O⟩:=QU O;rcases Ye O with⟨c,O⟩|⟨_,O⟩
 ·simp only[Option.some.injEq,Prod.mk.injEq]at O;rw[O.1]at c;cases c
 obtain⟨x10,_,O⟩:=QU O;rcases Ye O with⟨c,O⟩|⟨_,O⟩
 ·simp only[Option.some.injEq,Prod.mk.injEq]at O;rw[O.1]at c;cases c
 obtain⟨x12,h12,O⟩:=QU O;rcases Ye O with⟨c,O⟩|⟨c,O⟩
 ·simp only[Option.some.injEq,Prod.mk.injEq]at O;rw[O.1]at c;cases c
 simp only[DK]at c;obtain⟨r,hr,hr2⟩:=Qj4 n1.Tasks n1 h.k h.k.2.2.1;rw[h12]at hr;cases hr;intro t ht;have htm:=ht;obtain⟨j,hj,rfl⟩:=Ct.1 ht;obtain⟨b,hb,hb2⟩:=Qty n1 j (hr2 c j hj);exact Qtx n1 j _ b h (by rw[Qs,Qp hj]) htm hb hb2
def Qxn (n1:Qd)(m:L_ QBg)(h:QT n1)(O:Hl n1 m=C true):Bd n1:=by
 unfold Hl at O;obtain⟨x5,_,O⟩:=QU O;obtain⟨x6,_,O⟩:=QU O;rcases Ye O with⟨_,O⟩|⟨_,O⟩
 ·cases O
 obtain⟨x11,h11,O⟩:=QU O;obtain⟨x12,h12,O⟩:=QU O;unfold Vc at O;rcases Ye O with⟨_,O⟩|⟨c,_⟩
 ·cases O
 subst c;unfold Va at h12;rcases Ye h12 with⟨_,h12⟩|⟨c,_⟩
 ·cases h12
 simp only[DK]at c;obtain⟨a,b⟩:=x11;simp only at c;subst c;exact Qyg n1 h h11
def Xv (n:Qd)(m:L_ Bag):Prop:=Kr n 1024 m/\MN n m
def Xv.len (O:Xv n m)(h:QT n):QP (QP λ_=>True) m:=O.1.len h (by omega)
def Qwh (h:QT n)(hm:Kr n c m)(hl:MN n m):Xv n m:=by
 refine⟨⟨hm.1,λb hb=>?_⟩,hl⟩;have hr:=(hm.2 b hb).1;refine⟨hr,?_⟩;obtain⟨j,hj,rfl⟩:=Ct.1 hb;have hj2:j<n.Places.length:=by have:=hm.1;omega
 by_cases c0:(m[j]).length=0
 ·omega
 have O:(m[j]).length-1<(m[j]).length:=by omega
 have h1:=Qsp hr.1 (a:=0) (λp hp=>(hr.2 p hp).1) ((m[j]).length-1) O;have h2:=ET hr.1.nd (Xn O);have h3:=(hr.2 _ (Xn O)).2.1;obtain⟨z,hz,hk⟩:=hl j _ _ (Qp hj) (Qp hj2) _ (by rw[h2];omega);have:=EU (DG _ _ h.k.1) hz;omega
def Zo {x:L_ Bag}(h:QT n)(hg:Xv n m)(ho:Yf n o)(hD:Yg n m o=C (x,0)):Xv n x:=by
 obtain⟨hm,hl⟩:=hg;have hpl:=h.pl;have hm1:=hm.1;have hx:=EU (Qo4 n m o 1024 h hm (by omega) ho) hD rfl;obtain⟨t,hT,hG⟩:=Qwa hD;obtain⟨hCk,need,hN,hL⟩:=Qtj hT;obtain⟨hnd,hndl⟩:=EU (Qo2 n o h ho) hN rfl;have ht:=EU (Qre n m o 1024 h hm (by omega) ho) hT rfl;obtain⟨_,eL⟩:=(EU (Qr0 n m need 1024 20 h hm hnd (by omega)) hL).1 rfl;have htl:MN n t:=λj b p hb hp k hk=>by
  have hj:=(QX.1 hp).1;obtain⟨a,ha,ha1,ha2⟩:=Qqv hm hj;obtain⟨u,hu,hu1,hu2⟩:=Qqv hnd hj;obtain⟨p',O,hp2⟩:=eL j a u ha hu;have O:t[j]? = C p':=O;rw[hb]at O;cases O;have q:=Qxf (by omega) hp2;have:=hu1.cnt k;have:=q.2.2.2.2 k;exact hl j a p ha hp k (by omega)
 exact Qwh h hx (EU (Qwb n t o (1024+20) h ht htl (by omega) ho) hG rfl)
def XX : Nat->Int->LI_
 | 0,_=>[]
 | k+1,x=>IntKind.u8.wrap (KB .i64 x (Qe (8*(k:Int))))::XX k x
def KN (k:Nat)(x:Int):(XX k x).length=k:=by
 induction k with
 | zero=>rfl
 | succ k h=>simp[XX,h]
def Qo7 {α β:Type}{f:α->L_ β}:∀{l:L_ α},(∀x∈l,(f x).length=c)->(l.flatMap f).length=l.length*c:=by
 intro l
 induction l with
 | nil=>intro _;simp
 | cons x l ih=>
  intro h;have h1:=ih λy O=>h y (Yb _ O);have h2:=h x XD;rw[UE,Jp,We,Nat.succ_mul];omega
def Qwi (e:Int)(h:Nat)(O:LI_)(hs:h<=8)(hl:O.length+h<=4294967296):Qh (λst=>Ba e st.1 st.2) ((Qe ((h:Int)-1)),O)=C (O++XX h e):=by
 obtain⟨r,h1,h2⟩:=(Qg.up (body:=λst:Int×LI_=>Ba e st.1 st.2) h (λst=>(h:Int)-1-st.1) (λst=>-1<=st.1/\st.2.length+(st.1+1).toNat=O.length+h/\st.2++XX (st.1+1).toNat e=O++XX h e) (Q:=λq:LI_=>q=O++XX h e) (s0:=((Qe ((h:Int)-1)),O))
  (by show(h:Int)-1-Qe ((h:Int)-1)=0;rw[Xh (by omega)];omega) (by
   show -1<=Qe ((h:Int)-1)/\O.length+(Qe ((h:Int)-1)+1).toNat=_/\O++XX (Qe ((h:Int)-1)+1).toNat e=_;rw[Xh (by omega),show((h:Int)-1+1).toNat=h by omega];exact⟨by omega,rfl,rfl⟩) (λi st hi hn hJ=>by
   obtain⟨k,l⟩:=st;replace hi:(h:Int)-1-k=(i:Int):=hi;obtain⟨j0,j1,j2⟩:-1<=k/\l.length+(k+1).toNat=O.length+h/\l++XX (k+1).toNat e=O++XX h e:=hJ;show Qg (Ba e k l) _;unfold Ba;refine T1 (λhc=>?_) (λhc=>T2 (Qn ?_))
   ·simp only[Qx]at hc;have hw:Qe (8*k)=8*k:=Xh (by omega);have hw2:Qe (k-1)=k-1:=Xh (by omega);have e1:(k+1).toNat=k.toNat+1:=by omega
    refine T0 (T5 (by rw[hw];simp only[Qx];omega)) λ_ _=>?_;refine T0 (T5 (by simp;omega)) λ_ _=>?_;refine T2 (QG ⟨by omega,by show(h:Int)-1-Qe (k-1)=_;rw[hw2];omega,?_⟩);show -1<=Qe (k-1)/\(l++[_]).length+(Qe (k-1)+1).toNat=_/\(l++[_])++XX (Qe (k-1)+1).toNat e=_;rw[hw2,show(k-1+1).toNat=k.toNat by omega];rw[e1,XX,show((k.toNat:Nat):Int)=k by omega]at j2;refine⟨by omega,by simp;omega,?_⟩;rw[Dz];exact j2
   simp only[QS]at hc;rw[show(k+1).toNat=0 by omega,XX,Qda]at j2;exact j2))
 rw[h1,h2]
def Qrq (O:LI_)(h:Nat)(l:LI_)(hs:h<=8)(hl:O.length+8*l.length<=4294967296):Cb O h l=C (O++l.flatMap (XX h)):=by
 unfold Cb;obtain⟨r,h1,h2⟩:=(Qg.up (body:=λst:Int×LI_=>HT l h st.1 st.2) l.length (λst=>st.1) (λst=>st.2=O++(l.take st.1.toNat).flatMap (XX h)) (Q:=λq:LI_=>q=O++l.flatMap (XX h)) (s0:=((0:Int),O)) rfl (by simp) (λi st hi hn hJ=>by
  obtain⟨x,a⟩:=st;replace hi:x=(i:Int):=hi;subst hi;replace hJ:a=O++(l.take (i:Int).toNat).flatMap (XX h):=hJ;rw[Xs]at hJ;show Qg (HT l h i a) _;unfold HT;refine T1 (λhc=>?_) (λhc=>T2 (Qn ?_))
  ·simp only[Qx]at hc;have i1:i<l.length:=by omega
   have hlen:a.length=O.length+i*h:=by
    rw[hJ,Jp,Qo7 (c:=h) λx _=>KN h x,KX,IU (by omega)]
   have hm:i*h<=i*8:=Nat.mul_le_mul_left i hs;rw[Qs,Qp i1,Qa,Qwi _ h a hs (by omega),Qa];unfold QbM;have hw:Qe ((i:Int)+1)=((i+1:Nat):Int):=Qj i1 (by unfold maxLen;omega:l.length<=maxLen);refine T2 (QG ⟨i1,hw,?_⟩);show a++XX h l[i]=O++(l.take (Qe ((i:Int)+1)).toNat).flatMap (XX h);rw[hw,Xs,UF,Qp i1,hJ,QiA,Dz];simp
  simp only[QS]at hc;rw[hJ,JE (by omega)]))
 rw[h1,h2];rfl
def Qxo (h:Nat)(l:LI_):Qau h l=Cb [] h l:=rfl
def VB (b:Bag):LI_:=XX 2 b.length++b.flatMap λp=>XX 4 p.1++XX 4 p.2
def QiS (m:L_ Bag):LI_:=XX 1 m.length++m.flatMap VB
def QlV (b:Bag):(VB b).length=2+8*b.length:=by
 unfold VB;rw[Jp,KN,Qo7 (c:=8) λx _=>by simp[KN]];omega
def Qu7 (h:QT n)(hg:Xv n m)(hml:m.length<=64):Cc m=C (QiS m,0):=by
 unfold Cc;rw[Qz (by omega),Qi,show(1:Int)=((1:Nat):Int)from rfl,Qxo,Qrq [] 1 _ (by omega) (by simp),Qa];have hb:∀b∈m,Rt b/\b.length<=1024:=hg.1.2;have hmem:∀b∈m,∀p∈b,p.1<=1024:=λb hb' p hp=>by
  obtain⟨j,hj,rfl⟩:=Ct.1 hb';have hj2:j<n.Places.length:=by have:=hg.1.1;omega
  have hr:=(hb _ hb').1;have h2:=ET hr.1.nd hp;have h3:=(hr.2 _ hp).2.1;obtain⟨z,hz,hk⟩:=hg.2 j _ _ (Qp hj) (Qp hj2) p.1 (by rw[h2];omega);have:=EU (DG _ _ h.k.1) hz;omega
 have lens:∀i,i<=m.length->((m.take i).flatMap VB).length<=i*8194:=λi hi=>by
  have:=QcW (f:=VB) (c:=8194) (l:=m.take i) λb hb'=>by
   have:=(hb b (Cu hb')).2;rw[QlV];omega
  rw[KX,IU hi]at this;exact this
 obtain⟨r,h1,h2⟩:=(Qg.up (body:=λst:Int×LI_=>HV m st.1 st.2) m.length (λst=>st.1) (λst=>st.2=XX 1 m.length++(m.take st.1.toNat).flatMap VB) (Q:=λq:Unit⊕LI_=>q=.inr (QiS m)) (s0:=((0:Int),[]++[(m.length:Int)].flatMap (XX 1))) rfl (by simp) (λi st hi hn hJ=>by
  obtain⟨x,a⟩:=st;replace hi:x=(i:Int):=hi;subst hi;replace hJ:a=XX 1 m.length++(m.take (i:Int).toNat).flatMap VB:=hJ;rw[Xs]at hJ;show Qg (HV m i a) _;unfold HV;refine T1 (λhc=>?_) (λhc=>T2 (Qn ?_))
  ·simp only[Qx]at hc;have i1:i<m.length:=by omega
   have hbm:=Xn i1;have hr:=(hb _ hbm).1;have hrl:=(hb _ hbm).2;have hal:a.length<=1+i*8194:=by
    have:=lens i (by omega);rw[hJ,Jp,KN];omega
   rw[Qs,Qp i1,Qa];have g1:RP m[i]=C false:=by
    unfold RP;rw[QcR _ (by unfold maxLen;omega),Qa,YV.2 hr];simp only[JD,Qi];rw[Qz (by omega),Qi];by_cases c0:(m[i]).length=0
    ·rw[Qz (by omega)];rfl
    have O:(m[i]).length-1<(m[i]).length:=by omega
    rw[Qt (by omega),Ql,Xh (by omega),show((m[i]).length:Int)-1=(((m[i]).length-1:Nat):Int) by omega,Qs,Qp O,Qa];have:=hmem _ hbm _ (Xn O);rw[Qz (by omega)]
   rw[g1,Qa];unfold QbP;rw[Qi,show(2:Int)=((2:Nat):Int)from rfl,Qrq a 2 _ (by omega) (by simp;omega),Qa];have inner:Qg (Qh (λst=>HU m[i] st.1 st.2) ((0:Int),a++[((m[i]).length:Int)].flatMap (XX 2))) λq:LI_=>q=a++VB m[i]:=by
    refine Qg.up (m[i]).length (λst=>st.1) (λst=>st.2=a++(XX 2 (m[i]).length++((m[i]).take st.1.toNat).flatMap λp=>XX 4 p.1++XX 4 p.2)) rfl (by simp) (λk st hk hn2 hK=>?_);obtain⟨x,c⟩:=st;replace hk:x=(k:Int):=hk;subst hk;replace hK:c=a++(XX 2 (m[i]).length++((m[i]).take (k:Int).toNat).flatMap λp=>XX 4 p.1++XX 4 p.2):=hK;rw[Xs]at hK;show Qg (HU m[i] k c) _;unfold HU;refine T1 (λhc2=>?_) (λhc2=>T2 (Qn ?_))
    ·simp only[Qx]at hc2;have k1:k<(m[i]).length:=by omega
     have hcl:c.length=a.length+2+k*8:=by
      rw[hK,Jp,Jp,KN,Qo7 (c:=8) λx _=>by simp[KN],KX,IU (by omega)];omega
     rw[Qs,Qp k1,Qa,show(4:Int)=((4:Nat):Int)from rfl,Qrq c 4 _ (by omega) (by simp;omega),Qa];have hw:Qe ((k:Int)+1)=((k+1:Nat):Int):=Qj k1 (by unfold maxLen;omega:(m[i]).length<=maxLen);refine T2 (QG ⟨k1,hw,?_⟩);show c++[(m[i])[k].1,(m[i])[k].2].flatMap (XX 4)=a++(XX 2 (m[i]).length++((m[i]).take (Qe ((k:Int)+1)).toNat).flatMap λp=>XX 4 p.1++XX 4 p.2);rw[hw,Xs,UF,Qp k1,hK,QiA];simp
    simp only[QS]at hc2;rw[hK,JE (by omega)];rfl
   obtain⟨q,hq1,rfl⟩:=inner;rw[hq1,Qa];unfold QbO;have hw:Qe ((i:Int)+1)=((i+1:Nat):Int):=Qj i1 (by unfold maxLen;omega:m.length<=maxLen);refine T2 (QG ⟨i1,hw,?_⟩);show a++VB m[i]=XX 1 m.length++(m.take (Qe ((i:Int)+1)).toNat).flatMap VB;rw[hw,Xs,UF,Qp i1,hJ,QiA,Dz];simp
  simp only[QS]at hc;rw[hJ,JE (by omega)];rfl))
 rw[h1,h2];rfl
def Xp (m:L_ Bag):ByteArray:=LY (if m.length<=64 then QiS m else [])
def QnM (h:QT n)(O:Xv n m):Hc m=C (Xp m):=by
 unfold Hc Xp;by_cases c:m.length<=64
 ·rw[Qu7 h O c,if_pos c];rfl
 rw[if_neg c];unfold Cc;rw[Qt (by omega)];rfl
def Wr (n:Qd)(w:Int)(x:L_ Bag)(o:Qc):O_ (L_ Bag):=if o.Task=w then none else match Yg n x o with
 | some (y,c)=>if c=0 then C y else none
 | none=>none
def Fc (n:Qd)(w:Int)(x:L_ Bag):L_ (L_ Bag):=(Ja n x).filterMap (Wr n w x)
def Qu8 {x:L_ Bag}(h:Wr n w x o=C y):o.Task≠w/\Yg n x o=C (y,0):=by
 unfold Wr at h;split at h
 ·cases h
 rename_i c;refine⟨c,?_⟩;cases e:Yg n x o with
 | none=>rw[e]at h;cases h
 | some r=>
  obtain⟨a,b⟩:=r;rw[e]at h;simp only at h;split at h
  ·rename_i O;cases h;rw[O]
  cases h
def Qu9 {x:L_ Bag}(h:QT n)(O:Xv n x):∀y∈Fc n w x,Xv n y:=λy hy=>by
 obtain⟨o,ho,he⟩:=List.mem_filterMap.1 hy;exact Zo h O (PW h (O.len h) ho) (Qu8 he).2
def FM (mm:L_ (ByteArray×Bool))(l:L_ (L_ Bag)):Prop:=∀k,(Qr mm k).getD false=l.any λy=>decide (Xp y=k)
def FM.add {mm:L_ (ByteArray×Bool)}(h:FM mm l)(x:L_ Bag):FM (XL SO mm (Xp x) true) (l++[x]):=λk=>by
 rw[Kb,List.any_append];by_cases c:k=Xp x
 ·subst c;rw[if_pos rfl];simp
 rw[if_neg c,h k];have:decide (Xp x=k)=false:=Qz λe=>c e.symm;simp[this]
def QY (budget:Int):Nat:=(min2 (max2 0 budget) 4096).toNat
def Qfr (budget:Int):(QY budget:Int)=min2 (max2 0 budget) 4096/\QY budget<=4096:=by
 unfold QY min2 max2;split<;>split<;>omega
def Fd (n:Qd)(w budget:Int)(m:L_ Bag):L_ (L_ Bag)×Bool:=if QY budget=0 then([],false)else Ex Xp (Fc n w) (QY budget) (QY budget+1) [m] 0
def Qtz (w budget:Int)(h:QT n)(hb:Bd n)(hg:Xv n m):NW n m w budget=C (Fd n w budget m):=by
 have hm:=Qfr budget;have hpl:=h.pl;unfold NW Fd;by_cases c0:QY budget=0
 ·rw[if_pos c0,show(min2 (max2 0 budget) 4096==0)=true by rw[<-hm.1,c0];rfl];rfl
 rw[if_neg c0,show(min2 (max2 0 budget) 4096==0)=false by simp;omega];simp only[Qi];have hm1:=hg.1.1;rw[QnM h hg,Qa,Hz m (by omega) (λb hb=>by have:=(hg.1.2 b hb).2;omega),Qa];generalize hR:Ex Xp (Fc n w) (QY budget) (QY budget+1) [m] 0=R;have main:Qg (Qh (λst=>FH n w budget st.1 st.2.1 st.2.2) ((0:Int),(XL SO ([]:QSB) (Xp m) true),[m])) λq:L_ (L_ Bag)⊕L_ (L_ Bag)=>(∀l,q=.inl l->R=(l,false))/\∀l,q=.inr l->R=(l,true):=by
  refine Qg.up (QY budget) (λst=>st.1) (λst=>FM st.2.1 st.2.2/\(∀x∈st.2.2,Xv n x)/\st.2.2.length<=QY budget/\Ex Xp (Fc n w) (QY budget) (QY budget+1-st.1.toNat) st.2.2 st.1.toNat=R) rfl ⟨?_,?_,?_,hR⟩ (λi st hi hn hJ=>?_)
  ·exact FM.add (mm:=[]) (l:=[]) (λk=>rfl) m
  ·intro x hx;simp at hx;subst hx;exact hg
  ·show 1<=_;omega
  obtain⟨a,mm,l⟩:=st;replace hi:a=(i:Int):=hi;subst hi;obtain⟨j1,j2,j3,j4⟩:FM mm l/\(∀x∈l,Xv n x)/\l.length<=QY budget/\Ex Xp (Fc n w) (QY budget) (QY budget+1-(i:Int).toNat) l (i:Int).toNat=R:=hJ;rw[Xs,show QY budget+1-i=(QY budget-i)+1 by omega,Ex]at j4;show Qg (FH n w budget i mm l) _;unfold FH;refine T1 (λhc=>?_) (λhc=>T2 (Qn ⟨λl' e=>(by cases e),λl' e=>?_⟩))
  ·simp only[Qx]at hc;have i1:i<l.length:=by omega
   have hx:=Qp i1;have hgx:=j2 _ (Xn i1);rw[Qs,hx,Qa];rw[hx]at j4;simp only at j4;generalize l[i]=x at hx hgx j4 ⊢;have hal:=QiR x h hb;rw[Qgq n x 9223372036854775807 h (hgx.len h) (by omega) (by omega) (.inr (by omega)),Qa];have hxl:=hgx.len h;have e0:(Ja n x).take (9223372036854775807:Int).toNat=Ja n x:=JE (by omega);rw[e0];have hok:=λo=>PW (o:=o) h hxl;have inner:Qg (Qh (λst=>FG (Ja n x) w i n budget st.1 st.2.1 st.2.2) ((0:Int),mm,l)) λq:L_ (L_ Bag)⊕(L_ (ByteArray×Bool)×L_ (L_ Bag))=>
     (∀o,q=.inl o->YQ Xp (QY budget) l (Fc n w x)=.inl o)/\∀O o,q=.inr (O,o)->YQ Xp (QY budget) l (Fc n w x)=.inr o/\FM O o/\(∀x∈o,Xv n x)/\o.length<=QY budget:=by
    generalize hT:YQ Xp (QY budget) l (Fc n w x)=T;have hT:YQ Xp (QY budget) l ((Ja n x).filterMap (Wr n w x))=T:=hT;generalize Ja n x=X at hT hal hok ⊢;refine Qg.up X.length (λst=>st.1) (λst=>FM st.2.1 st.2.2/\(∀x∈st.2.2,Xv n x)/\st.2.2.length<=QY budget/\st.2.2[i]? = C x/\YQ Xp (QY budget) st.2.2 ((X.drop st.1.toNat).filterMap (Wr n w x))=T) rfl ⟨j1,j2,j3,hx,hT⟩ (λk st hk hn2 hK=>?_);obtain⟨a,mm,l⟩:=st;replace hk:a=(k:Int):=hk;subst hk;obtain⟨k1,k2,k3,k4,k5⟩:FM mm l/\(∀x∈l,Xv n x)/\l.length<=QY budget/\l[i]? = C x/\YQ Xp (QY budget) l ((X.drop (k:Int).toNat).filterMap (Wr n w x))=T:=hK;rw[Xs]at k5;show Qg (FG X w i n budget k mm l) _;unfold FG;refine T1 (λhc2=>?_) (λhc2=>T2 (Qn ⟨λo e=>(by cases e),λO o e=>?_⟩))
    ·simp only[Qx]at hc2;have i2:k<X.length:=by omega
     have hw:Qe ((k:Int)+1)=((k+1:Nat):Int):=Qj i2 (by unfold maxLen;omega:X.length<=maxLen);have next:∀O l',FM O l'->(∀x∈l',Xv n x)->l'.length<=QY budget->l'[i]? = C x->YQ Xp (QY budget) l' ((X.drop (k+1)).filterMap (Wr n w x))=T->
       Qg (GY k O l') λo=>(∀s',o=.inl s'->k<X.length/\s'.1=((k+1:Nat):Int)/\FM s'.2.1 s'.2.2/\(∀x∈s'.2.2,Xv n x)/\s'.2.2.length<=QY budget/\s'.2.2[i]? = C x/\YQ Xp (QY budget) s'.2.2 ((X.drop s'.1.toNat).filterMap (Wr n w x))=T)/\
        ∀r:L_ (L_ Bag)⊕(L_ (ByteArray×Bool)×L_ (L_ Bag)),o=.inr r->(∀o,r=.inl o->T=.inl o)/\∀O o,r=.inr (O,o)->T=.inr o/\FM O o/\(∀x∈o,Xv n x)/\o.length<=QY budget:=λO l' f1 f2 f3 f4 f5=>by
      unfold GY;refine T2 (QG (ix:=λst:Int×L_ (ByteArray×Bool)×L_ (L_ Bag)=>st.1) (J:=λst:Int×L_ (ByteArray×Bool)×L_ (L_ Bag)=>FM st.2.1 st.2.2/\(∀x∈st.2.2,Xv n x)/\st.2.2.length<=QY budget/\st.2.2[i]? = C x/\YQ Xp (QY budget) st.2.2 ((X.drop st.1.toNat).filterMap (Wr n w x))=T) ⟨i2,hw,f1,f2,f3,f4,?_⟩);show YQ Xp (QY budget) l' ((X.drop (Qe ((k:Int)+1)).toNat).filterMap (Wr n w x))=T;rw[hw,Xs];exact f5
     rw[Qs,Qp i2,Qa];rw[Fz i2,List.filterMap_cons]at k5;have hox:=hok _ (Xn i2);generalize X[k]=o at k5 hox ⊢;refine T1 (λhc3=>?_) λhc3=>?_
     ·have:Wr n w x o=none:=by unfold Wr;rw[if_pos (by simpa using hc3)]
      rw[this]at k5;exact next mm l k1 k2 k3 k4 k5
     simp only[beq_eq_false_iff_ne]at hc3;rw[Qs,k4,Qa];obtain⟨⟨y,c⟩,hD,_⟩:=Qo4 n x o 1024 h hgx.1 (by omega) hox;rw[hD,Qa];by_cases cc:c=0
     ·subst cc;have hgy:=Zo h hgx hox hD;have:Wr n w x o=C y:=by unfold Wr;rw[if_neg hc3,hD];rfl
      rw[this]at k5;simp only at k5;rw[YQ]at k5;unfold Pl;simp only[show((0:Int) != 0)=false from rfl,Qi];rw[QnM h hgy,Qa,k1 (Xp y),Qa];unfold Pm;refine T1 (λhh=>?_) λhh=>?_
      ·rw[if_pos (show Qia Xp l y=true from hh)]at k5;exact next mm l k1 k2 k3 k4 k5
      rw[if_neg (by rw[show Qia Xp l y=false from hh];decide)]at k5;refine T1 (λhf=>?_) λhf=>?_
      ·simp only[beq_iff_eq]at hf;rw[if_pos (by omega)]at k5;exact T2 (Qn ⟨λo e=>(by cases e;exact k5.symm),λO o e=>by cases e⟩)
      simp only[beq_eq_false_iff_ne]at hf;rw[if_neg (by omega)]at k5;simp only;rw[QnM h hgy,Qa];refine T0 (T5 (by simp;omega)) λ_ _=>?_;refine next _ _ (k1.add y) (λz hz=>?_) (by simp;omega) (by rw[Jo ((QX.1 k4).1)];exact k4) k5;rcases XU.1 hz with hz | hz
      ·exact k2 z hz
      simp at hz;subst hz;exact hgy
     have:Wr n w x o=none:=by unfold Wr;rw[if_neg hc3,hD];simp only;rw[if_neg cc]
     rw[this]at k5;unfold Pl;simp only[show(c != 0)=true by simpa using cc,Ql,Qa];unfold Pm;exact next mm l k1 k2 k3 k4 k5
    cases e;simp only[QS]at hc2;rw[Qfx (by omega),List.filterMap_nil,YQ]at k5;exact⟨k5.symm,k1,k2,k3⟩
   obtain⟨q,hq1,hq2,hq3⟩:=inner;rw[hq1,Qa];rcases q with q | ⟨O,o⟩
   ·have:=hq2 q rfl;rw[this]at j4;show Qg (Pn q) _;unfold Pn;exact T2 (Qn ⟨λl' e=>(by cases e;exact j4.symm),λl' e=>by cases e⟩)
   obtain⟨f1,f2,f3,f4⟩:=hq3 O o rfl;rw[f1]at j4;simp only at j4;show Qg (Po i O o) _;unfold Po;have hw:Qe ((i:Int)+1)=((i+1:Nat):Int):=Qj (by omega:i<QY budget) (by unfold maxLen;omega);refine T2 (QG ⟨by omega,hw,f2,f3,f4,?_⟩);show Ex Xp (Fc n w) (QY budget) (QY budget+1-(Qe ((i:Int)+1)).toNat) o (Qe ((i:Int)+1)).toNat=R;rw[hw,Xs,show QY budget+1-(i+1)=QY budget-i by omega];exact j4
  cases e;simp only[QS]at hc;rw[Zv (by omega)]at j4;exact j4.symm
 obtain⟨q,hq1,hq2,hq3⟩:=main;rw[hq1,Qa];rcases q with q | q
 ·rw[hq2 q rfl];rfl
 rw[hq3 q rfl];rfl
def OT {l:LI_}{j:Nat}(h:j<l.length):l.toArray[j]! = l[j]:=by
 rw[getElem!_pos l.toArray j (by simpa using h)];simp
def QpA {l:LI_}(h:x∈JH l):x∈l:=by
 unfold JH Lib.compact Lib.compactUpTo at h;obtain⟨j,O,rfl⟩:=YB.1 h;have:=Eo.1 (Ua.1 O).1;rw[OT this];exact Xn this
def QpB {l:LI_}(h:l.Pairwise (·<=·)):(JH l).Pairwise (·<·):=by
 have hp:=Qa7.1 h;unfold JH Lib.compact Lib.compactUpTo;rw[Zx,List.pairwise_filter,Qa7];intro i j hi hj hij _ O;rw[Qa4]at hi hj;rw[Qa3]at O;rw[Qa3,Qa3,OT hi,OT hj];unfold Lib.keeps at O;have O:=Xd O;rcases O with O | O
 ·omega
 have hj1:j-1<l.length:=by omega
 rw[OT hj,OT hj1]at O;have h1:=hp (j-1) j hj1 hj (by omega);by_cases c:i=j-1
 ·subst c;omega
 have h2:=hp i (j-1) hi hj1 (by omega);omega
def Qrr (l:LI_):(Kq l).Pairwise (·<=·):=Qeo l
def QpC {l:LI_}:x∈Kq l↔x∈l:=by
 exact(Tq l).mem_iff
def Nz (m:L_ Bag)(k:Int):Prop:=0<=k/\k<m.length/\m[k.toNat]? = C []
def QtA (n:Qd)(m:L_ Bag)(task:Int)(h:QT n):Qg (Dd n m task) λe=>(∀k∈e,Nz m k)/\e.Pairwise (·<·):=by
 unfold Dd;refine T1 (λ_=>T2 ⟨λk h=>(by cases h),List.Pairwise.nil⟩) λhc=>?_;simp only[JT,QS]at hc;refine T0 (T4 (by omega) (by omega)) λe he=>?_;have hil:=(h.tk e he).2.1;refine T0 (Qg.up e.Ins.length (λst=>st.1) (λst=>(st.2.length:Int)<=st.1/\∀k∈st.2,Nz m k) (Q:=λq:LI_=>q.length<=16/\∀k∈q,Nz m k) rfl ⟨by simp,λk h=>by cases h⟩ (λi st hi hn hJ=>?_)) (λq hq=>?_)
 ·obtain⟨x,l⟩:=st;replace hi:x=(i:Int):=hi;subst hi;obtain⟨j1,j2⟩:(l.length:Int)<=(i:Int)/\∀k∈l,Nz m k:=hJ;show Qg (Ak e m i l) _;unfold Ak;refine T1 (λhc2=>?_) (λhc2=>T2 (Qn ⟨by omega,j2⟩));simp only[Qx]at hc2;have i1:i<e.Ins.length:=by omega
  have hw:Qe ((i:Int)+1)=((i+1:Nat):Int):=Qj i1 (by unfold maxLen;omega:e.Ins.length<=maxLen);rw[Qs,Qp i1,Qa];refine T0 (P:=λy=>y=true->Nz m (e.Ins[i]).Place) ?_ λy hy=>?_
  ·unfold Pj;refine T1 (λc1=>?_) λ_=>T2 λh=>by cases h
   refine T1 (λc2=>?_) λ_=>T2 λh=>by cases h
   simp only[Qx]at c1 c2;have O:(e.Ins[i]).Place.toNat<m.length:=by omega
   rw[YI c1,Qp O,Qa];refine T2 λhz=>⟨c1,c2,?_⟩;simp only[beq_iff_eq]at hz;rw[Qp O,HO.1 (show(m[(e.Ins[i]).Place.toNat]).length=0 by omega)]
  unfold Pk Aj;refine T1 (λc1=>?_) λ_=>?_
  ·refine T0 (T5 (by simp;omega)) λ_ _=>?_;refine T2 (QG ⟨i1,hw,by show((l++[_]).length:Int)<=Qe _;rw[hw];simp;omega,λk O=>?_⟩);rcases XU.1 O with O | O
   ·exact j2 k O
   simp at O;subst O;exact hy c1
  exact T2 (QG ⟨i1,hw,by show(l.length:Int)<=Qe _;rw[hw];omega,j2⟩)
 obtain⟨q1,q2⟩:=hq;show Qg (Al q) _;unfold Al;rw[Qgo _ (by omega),Qa];refine T0 (T5 (by simp[WJ])) λ_ _=>?_;unfold Kk;rw[YR (by rw[WJ];omega),Qa,Qa];exact T2 ⟨λk O=>q2 k (QpC.1 (QpA O)),QpB (Qrr q)⟩
def HB (n:Qd)(m:L_ Bag)(h:Int):LI_:=(Dd n m h).getD []
def Qrs (n:Qd)(m:L_ Bag)(O:Int)(h:QT n):Dd n m O=C (HB n m O)/\(∀k∈HB n m O,Nz m k)/\(HB n m O).Pairwise (·<·):=by
 obtain⟨e,h1,h2⟩:=QtA n m O h;unfold HB;rw[h1];exact⟨rfl,h2⟩
def BU (e:LI_)(x:L_ Bag):Bool:=e.any λk=>decide (0<(((x[k.toNat]?).getD []).length:Int))
def Qyh (e:LI_)(x:L_ Bag)(he:e.length<=maxLen)(hk:∀k∈e,0<=k/\k<x.length):KH e x=C (BU e x):=by
 unfold KH Em;obtain⟨q,h1,h2⟩:=(Qg.up (body:=λst=>KG e x st) e.length (λst=>st) (λst=>BU (e.take st.toNat) x=false) (Q:=λq:Int⊕Unit=>(∀j,q=.inl j->0<=j/\BU e x=true)/\(q=.inr ()->BU e x=false)) (s0:=(0:Int)) rfl rfl (λi st hi hn hJ=>by
  replace hi:st=(i:Int):=hi;subst hi;replace hJ:BU (e.take (i:Int).toNat) x=false:=hJ;rw[Xs]at hJ;show Qg (KG e x i) _;unfold KG Se;refine T1 (λhc=>?_) (λhc=>T2 (Qn ⟨λj e=>(by cases e),λ_=>?_⟩))
  ·simp only[Qx]at hc;have i1:i<e.length:=by omega
   have h:=Xn i1;obtain⟨k1,k2⟩:=hk _ h;have hkk:(e[i]).toNat<x.length:=by omega
   rw[Qs,Qp i1,Qa,YI k1,Qp hkk];simp only[Qa];have O:decide (0<(((x[(e[i]).toNat]?).getD []).length:Int))=decide (0<((x[(e[i]).toNat]).length:Int)):=by rw[Qp hkk];rfl
   refine T1 (λhc2=>T2 (Qn ⟨λj e'=>(by cases e';exact⟨by omega,EX.2 ⟨_,h,by rw[O];exact hc2⟩⟩),λe=>by cases e⟩)) λhc2=>?_;have hw:Qe ((i:Int)+1)=((i+1:Nat):Int):=Qj i1 he;refine T2 (QG ⟨i1,hw,?_⟩);show BU (e.take (Qe ((i:Int)+1)).toNat) x=false;rw[hw,Xs,UF,Qp i1];unfold BU at hJ ⊢;rw[List.any_append,hJ];simp only[Option.toList_some,List.any_cons,List.any_nil,Ta,SZ];rw[O];exact hc2
  simp only[QS]at hc;rwa[JE (by omega)]at hJ))
 rw[h1];rcases q with q | q
 ·have:=h2.1 q rfl;rw[this.2];simp only[Qa,Sum.elim_inl];unfold Bh;rw[Qa,Qt this.1]
 rw[h2.2 rfl];rfl
def QnN (w budget:Int)(h:QT n)(hg:Xv n m):(∀x∈(Fd n w budget m).1,Xv n x)/\(Fd n w budget m).1.length<=QY budget/\OQ Xp (Fd n w budget m).1/\(0<QY budget->∃r,(Fd n w budget m).1=m::r):=by
 unfold Fd;by_cases c0:QY budget=0
 ·rw[if_pos c0];exact⟨λx h=>(by cases h),by simp,List.Pairwise.nil,λh=>by omega⟩
 rw[if_neg c0];obtain⟨⟨r,hr⟩,h2,h3,h4⟩:=QuF (key:=Xp) (succ:=Fc n w) (P:=Xv n) (λx O=>Qu9 h O) (most:=QY budget) (QY budget+1) (out:=[m]) (a:=0) (by simp;omega) (Qdb _ _) λx O=>by simp at O;subst O;exact hg
 exact⟨h4,h2,h3,λ_=>⟨r,hr⟩⟩
def QnO (n:Qd)(m:L_ Bag)(h budget:Int):Int:=if (Fd n h budget m).1.any (BU (HB n m h))then 0 else if (Fd n h budget m).2 then 1 else 2
def Qwj (O budget:Int)(h:QT n)(hb:Bd n)(hg:Xv n m):NY n m O budget=C (QnO n m O budget):=by
 have hpl:=h.pl;obtain⟨e1,e2,e3⟩:=Qrs n m O h;obtain⟨r1,r2,_,_⟩:=QnN O budget h hg;have hmost:=(Qfr budget).2;have hm1:=hg.1.1;unfold NY QnO;rw[e1,Qa,Qtz O budget h hb hg,Qa];have hel:(HB n m O).length<=maxLen:=by
  unfold Dd at e1;have:∀(l:LI_) (a b:Int),l.Pairwise (·<·)->(∀k∈l,a<=k/\k<b)->(l.length:Int)<=max 0 (b-a):=by
   intro l
   induction l with
   | nil=>intro a b _ _;simp;omega
   | cons x l ih=>
    intro a b hp hk;obtain⟨p1,p2⟩:=FA.1 hp;have h1:=hk x XD;have:=ih (x+1) b p2 λk hk2=>⟨by have:=p1 k hk2;omega,(hk k (Yb _ hk2)).2⟩;simp only[We];omega
  have:=this _ 0 (m.length:Int) e3 λk hk=>⟨(e2 k hk).1,(e2 k hk).2.1⟩;unfold maxLen;omega
 have hbk:∀x∈(Fd n O budget m).1,∀k∈HB n m O,0<=k/\k<x.length:=λx hx k hk=>by
  have h1:=e2 k hk;have h2:=(r1 x hx).1.1;exact⟨h1.1,by have:=h1.2.1;omega⟩
 generalize Fd n O budget m=R at r1 r2 hbk ⊢;generalize HB n m O=E at hel hbk ⊢;obtain⟨q,h1,h2⟩:=(Qg.up (body:=λst:LI_×Int=>FJ R st.1 st.2) R.1.length (λst=>st.2) (λst=>st.1=E/\(R.1.take st.2.toNat).any (BU E)=false) (Q:=λq:Unit⊕Unit=>(q=.inl ()->R.1.any (BU E)=true)/\(q=.inr ()->R.1.any (BU E)=false)) (s0:=(E,(0:Int))) rfl ⟨rfl,rfl⟩ (λi st hi hn hJ=>by
  obtain⟨a,x⟩:=st;replace hi:x=(i:Int):=hi;subst hi;obtain⟨j1,j2⟩:a=E/\(R.1.take (i:Int).toNat).any (BU E)=false:=hJ;subst j1;rw[Xs]at j2;show Qg (FJ R a i) _;unfold FJ;refine T1 (λhc=>?_) (λhc=>T2 (Qn ⟨λe=>(by cases e),λ_=>?_⟩))
  ·simp only[Qx]at hc;have i1:i<R.1.length:=by omega
   have hmem:=Xn i1;rw[Qs,Qp i1,Qa,Qyh a _ hel (hbk _ hmem),Qa];refine T1 (λhc2=>T2 (Qn ⟨λ_=>EX.2 ⟨_,hmem,hc2⟩,λe=>by cases e⟩)) λhc2=>?_;have hw:Qe ((i:Int)+1)=((i+1:Nat):Int):=Qj i1 (by unfold maxLen;omega:R.1.length<=maxLen);refine T2 (QG ⟨i1,hw,rfl,?_⟩);show(R.1.take (Qe ((i:Int)+1)).toNat).any (BU a)=false;rw[hw,Xs,UF,Qp i1,List.any_append,j2];simpa using hc2
  simp only[QS]at hc;rwa[JE (by omega)]at j2))
 rw[h1,Qa];rcases q with q | q
 ·rw[h2.1 rfl];rfl
 rw[h2.2 rfl];show Pp R=_;unfold Pp;cases R.2<;>rfl
def QcX (n:Qd)(m:L_ Bag)(o:Qc)(budget:Int):Int:=if YD n m o=C 0 then(match idx n.Tasks o.Task with
 | some e=>if e.Join=3 then QnO n m o.Task budget else 1
 | none=>0)else 0
def QnP (h:QT n)(hm:QP (QP λ_=>True) m)(ho:Yf n o)(hc:YD n m o=C 0):∃e,idx n.Tasks o.Task=C e/\e∈n.Tasks:=by
 obtain⟨_,e,O,_,_,_,b,hb,_⟩:=HK.1 ((Qea h hm ho).1 hc);obtain⟨k1,k2,_⟩:=OS h hb;rw[O]at k1;cases k1;exact⟨_,O,k2⟩
def Qrt (o:Qc)(budget:Int)(h:QT n)(hb:Bd n)(hg:Xv n m)(ho:Yf n o):NZ n m o budget=C (QcX n m o budget):=by
 unfold NZ QcX;obtain⟨c,hc,_⟩:=Qfq n m o h (hg.len h) ho;rw[hc,Qa];by_cases c0:c=0
 ·subst c0;obtain⟨e,he,_⟩:=QnP h (hg.len h) ho hc;rw[if_pos rfl,he];simp only[show((0:Int) != 0)=false from rfl,Qi,Qa];by_cases O:e.Join=3
  ·rw[if_pos O,show(e.Join != 3)=false by simpa using O,Qi,Qwj o.Task budget h hb hg];rfl
  rw[if_neg O,show(e.Join != 3)=true by simpa using O];rfl
 rw[if_neg (λe=>c0 (Option.some.inj e)),show(c != 0)=true by simpa using c0];rfl
def Qwk (n:Qd)(m:L_ Bag)(budget:Int)(hn:Xo n)(hm:QP (QP λ_=>True) m):Qg (Vd n m budget) λr=>r=true->QT n/\Bd n/\Xv n m/\budget<=12:=by
 unfold Vd;refine T0 (Qx5 n m hn hm).self λf O=>?_;obtain⟨hfe,O⟩:=O;refine T0 (P:=λr=>r=true->QT n/\Bd n/\Xv n m/\budget<=12) ?_ λr hr=>?_
 ·unfold Qdz;refine T1 (λc1=>?_) λ_=>T2 λh=>by cases h
  refine T1 (λc2=>?_) λ_=>T2 λh=>by cases h
  refine T1 (λc3=>?_) λ_=>T2 λh=>by cases h
  obtain⟨h,g1,g2⟩:=O c1;subst c1;rw[QaE h g1 (by omega),Qa];exact T2 λ_=>⟨h,Qxn n m h hfe,⟨g1,g2⟩,by simpa using c2⟩
 unfold QdA;exact T2 hr
def QwV (x:Int):IntKind.u8.wrap x=x % 256:=rfl
def Qbr (k:Nat)(x:Int)(h:k<8):IntKind.u8.wrap (KB .i64 x (Qe (8*(k:Int))))=(x / (2 ^ (8*k):Nat)) % 256:=by
 rw[QwV,Xh (by omega)];unfold KB;rw[show(8*(k:Int)).toNat=8*k by omega,show min (8*k) (IntKind.bits .i64)=8*k from IU (by show 8*k<=64;omega),Int.fdiv_eq_ediv_of_nonneg _ (Int.pow_nonneg (by omega))];simp
def Qru (x:Int):XX 2 x=[x / 256 % 256,x % 256]:=by
 simp only[XX,Qbr 0 x (by omega),Qbr 1 x (by omega)];simp
def Qrv (x:Int):XX 4 x=[x / 16777216 % 256,x / 65536 % 256,x / 256 % 256,x % 256]:=by
 simp only[XX,Qbr 0 x (by omega),Qbr 1 x (by omega),Qbr 2 x (by omega),Qbr 3 x (by omega)];simp
def QyW {y:Int}(O:0<=x/\x<65536)(hy:0<=y/\y<65536)(h:XX 2 x=XX 2 y):x=y:=by
 rw[Qru,Qru]at h;simp only[List.cons.injEq,and_true]at h;omega
def QwW {y:Int}(O:0<=x/\x<4294967296)(hy:0<=y/\y<4294967296)(h:XX 4 x=XX 4 y):x=y:=by
 rw[Qrv,Qrv]at h;simp only[List.cons.injEq,and_true]at h;omega
def Qgv (hk:k<=8):∀b∈XX k x,0<=b/\b<256:=by
 induction k with
 | zero=>intro b h;cases h
 | succ k O=>
  intro b h;rcases XV.1 h with rfl | h
  ·rw[QwV];omega
  exact O (by omega) b h
def QtB (p:Int×Int):LI_:=XX 4 p.1++XX 4 p.2
def Qrw (p:Int×Int):(QtB p).length=8:=by simp[QtB,KN]
def InP (p:Int×Int):Prop:=(0<=p.1/\p.1<4294967296)/\0<=p.2/\p.2<4294967296
def Qwl : ∀(a b:Bag),a.length=b.length->(∀p∈a,InP p)->(∀p∈b,InP p)->a.flatMap QtB=b.flatMap QtB->a=b:=by
 intro a
 induction a with
 | nil=>intro b h _ _ _;exact(HO.1 (by simpa using h.symm)).symm
 | cons p a ih=>
  intro b h ha hb e;cases b with
  | nil=>simp at h
  | cons q b=>
   rw[UE,UE]at e;obtain⟨e1,e2⟩:=List.append_inj e (by rw[Qrw,Qrw]);obtain⟨e3,e4⟩:=List.append_inj e1 (by rw[KN,KN]);have hp:=ha p XD;have hq:=hb q XD;have f1:=QwW hp.1 hq.1 e3;have f2:=QwW hp.2 hq.2 e4;rw[Prod.ext f1 f2,ih b (by simpa using h) (λr O=>ha r (Yb _ O)) (λr O=>hb r (Yb _ O)) e2]
def InB (b:Bag):Prop:=b.length<65536/\∀p∈b,InP p
def Qwm : ∀(a b:L_ Bag),a.length=b.length->(∀x∈a,InB x)->(∀x∈b,InB x)->a.flatMap VB=b.flatMap VB->a=b:=by
 intro a
 induction a with
 | nil=>intro b h _ _ _;exact(HO.1 (by simpa using h.symm)).symm
 | cons x a ih=>
  intro b h ha hb e;cases b with
  | nil=>simp at h
  | cons y b=>
   have hx:=ha x XD;have hy:=hb y XD;rw[UE,UE]at e;have e':=e;unfold VB at e';rw[Dz,Dz]at e';have e1:=(List.append_inj e' (by rw[KN,KN])).1;have O:=QyW (x:=(x.length:Int)) (y:=(y.length:Int)) ⟨by omega,by have:=hx.1;omega⟩ ⟨by omega,by have:=hy.1;omega⟩ e1;have O:x.length=y.length:=by omega
   obtain⟨f1,f2⟩:=List.append_inj e (by rw[QlV,QlV,O]);have f3:=(List.append_inj f1 (by rw[KN,KN])).2;rw[Qwl x y O hx.2 hy.2 f3,ih b (by simpa using h) (λr hr=>ha r (Yb _ hr)) (λr hr=>hb r (Yb _ hr)) f2]
def QnQ (l:LI_):(LY l).data.toList=l.map λx=>UInt8.ofNat x.toNat:=by
 unfold LY;have:∀(l:LI_) (r:ByteArray),(l.foldl (λr n=>r.push (UInt8.ofNat n.toNat)) r).data.toList=r.data.toList++l.map λx=>UInt8.ofNat x.toNat:=by
  intro l
  induction l with
  | nil=>intro r;simp
  | cons x l h=>intro r;rw[List.foldl_cons,h];simp[ByteArray.push]
 rw[this];rfl
def Qva {a b:LI_}(ha:∀x∈a,0<=x/\x<256)(hb:∀x∈b,0<=x/\x<256)(h:LY a=LY b):a=b:=by
 have e:(a.map λx=>UInt8.ofNat x.toNat)=b.map λx=>UInt8.ofNat x.toNat:=by rw[<-QnQ,<-QnQ,h]
 clear h
 induction a generalizing b with
 | nil=>cases b with
  | nil=>rfl
  | cons y b=>simp at e
 | cons x a ih=>cases b with
  | nil=>simp at e
  | cons y b=>
   simp only[EZ,List.cons.injEq]at e;have h1:=ha x XD;have h2:=hb y XD;have e1:=congrArg UInt8.toNat e.1;rw[UInt8.toNat_ofNat',UInt8.toNat_ofNat']at e1;have:x=y:=by omega
   rw[this,ih (λz O=>ha z (Yb _ O)) (λz O=>hb z (Yb _ O)) e.2]
def Qrx (m:L_ Bag):∀x∈QiS m,0<=x/\x<256:=by
 intro x h;unfold QiS at h;rcases XU.1 h with h | h
 ·exact Qgv (by omega) x h
 obtain⟨b,_,h⟩:=List.mem_flatMap.1 h;unfold VB at h;rcases XU.1 h with h | h
 ·exact Qgv (by omega) x h
 obtain⟨p,_,h⟩:=List.mem_flatMap.1 h;rcases XU.1 h with h | h
 ·exact Qgv (by omega) x h
 exact Qgv (by omega) x h
def Qsx (h:QT n)(O:Xv n m):∀b∈m,InB b:=λb hb=>by
 obtain⟨hr,hl⟩:=O.1.2 b hb;refine⟨by omega,λp hp=>?_⟩;have h1:=hr.2 p hp;obtain⟨j,hj,rfl⟩:=Ct.1 hb;have hj2:j<n.Places.length:=by have:=O.1.1;omega
 have h2:=ET hr.1.nd hp;obtain⟨z,hz,hk⟩:=O.2 j _ _ (Qp hj) (Qp hj2) p.1 (by rw[h2];omega);have:=EU (DG _ _ h.k.1) hz;exact⟨⟨h1.1,by omega⟩,by omega,by omega⟩
def QiT {b:L_ Bag}(h:QT n)(hp:n.Places.length<=64)(O:Xv n a)(hb:Xv n b)(e:Xp a=Xp b):a=b:=by
 have ha1:=O.1.1;have hb1:=hb.1.1;unfold Xp at e;rw[if_pos (by omega),if_pos (by omega)]at e;have e:=Qva (Qrx a) (Qrx b) e;unfold QiS at e;exact Qwm a b (by omega) (Qsx h O) (Qsx h hb) (List.append_inj e (by rw[KN,KN])).2
def Qbs (p:Int×Int)(l:Bag)(k:Int):QH (p::l) k=if p.1=k then p.2 else QH l k:=by
 unfold QH;rw[Qr];split<;>rfl
def Qo8 {l:Bag}{k:Int}(h:∀p∈l,p.1≠k):QH l k=0:=by
 unfold QH;rw[OP.2 h];rfl
def Qsy {l:Bag}(h:Rt (p::l)):Rt l:=⟨(Gm.1 h.1).2,λq O=>h.2 q (Yb _ O)⟩
def Qvb {l:Bag}(h:Rt (p::l)){k:Int}(hk:k<p.1):QH (p::l) k=0:=Qo8 λq O=>by
 rcases XV.1 O with rfl | O
 ·omega
 have:=(Gm.1 h.1).1 q O;omega
def rt_ext : ∀{a b:Bag},Rt a->Rt b->(∀k,QH a k=QH b k)->a=b:=by
 intro a
 induction a with
 | nil=>
  intro b _ O e;cases b with
  | nil=>rfl
  | cons q s=>
   have:=e q.1;rw[Qbs q s,if_pos rfl]at this;have h2:=(O.2 q XD).2.1;have h3:QH ([]:Bag) q.1=0:=rfl;omega
 | cons p r ih=>
  intro b ha O e;have hp:=(ha.2 p XD).2.1;have ep:=e p.1;rw[Qbs p r,if_pos rfl]at ep;cases b with
  | nil=>
   have h3:QH ([]:Bag) p.1=0:=rfl;omega
  | cons q s=>
   have hq:=(O.2 q XD).2.1;have eq:=e q.1;rw[Qbs q s,if_pos rfl]at eq;have h1:p.1=q.1:=by
    rcases Int.lt_trichotomy p.1 q.1 with h | h | h
    ·rw[Qvb O h]at ep;omega
    ·exact h
    rw[Qvb ha h]at eq;omega
   rw[Qbs q s,if_pos h1.symm]at ep;have h2:p=q:=Prod.ext h1 ep;subst h2;refine congrArg (p::·) (ih (Qsy ha) (Qsy O) λk=>?_);have:=e k;rw[Qbs,Qbs]at this;by_cases hk:p.1=k
   ·subst hk;rw[Qo8 λx hx=>by have:=(Gm.1 ha.1).1 x hx;omega,Qo8 λx hx=>by have:=(Gm.1 O.1).1 x hx;omega]
   rwa[if_neg hk,if_neg hk]at this
def Qwn {a b:Bag}(h:Rt a)(hb:Rt b)(O:a.length<=maxLen)(lb:b.length<=maxLen):Vn a b=C (decide (a=b)):=by
 obtain⟨r1,e1,h1⟩:=Fb a b O lb;obtain⟨r2,e2,h2⟩:=Fb b a lb O;unfold Vn QdP QdQ;rw[ZQ O lb,ZQ lb O,e1,e2];cases r1 with
 | false=>
  have:a≠b:=λe=>by
   subst e;have:=h1.2 ⟨h,h,λ_=>Qa2 _⟩;cases this
  rw[Qz this];rfl
 | true=>cases r2 with
  | false=>
   have:a≠b:=λe=>by
    subst e;have:=h2.2 ⟨h,h,λ_=>Qa2 _⟩;cases this
   rw[Qz this];rfl
  | true=>
   have:a=b:=rt_ext h hb λk=>Int.le_antisymm ((h1.1 rfl).2.2 k) ((h2.1 rfl).2.2 k);rw[Qt this];rfl
def QpD {b:L_ Bag}(hl:a.length=b.length)(la:a.length<=maxLen)(ha:∀x∈a,Rt x/\x.length<=maxLen)(hb:∀x∈b,Rt x/\x.length<=maxLen):GR a b=C (decide (a=b)):=by
 unfold GR;rw[show((a.length:Int) != (b.length:Int))=false by rw[hl];simp,Qi];have O:Qg (Qh (λst=>ME a b st) 0) λq=>(q=.inl ()->a≠b)/\(q=.inr ()->a=b):=by
  refine Qg.up a.length (λst=>st) (λst=>∀(j:Nat),(j:Int)<st->a[j]? = b[j]?) rfl (λj hj=>by omega) (λi st hi hn hJ=>?_);replace hi:st=(i:Int):=hi;subst hi;show Qg (ME a b i) _;unfold ME;refine T1 (λhc=>?_) (λhc=>T2 (Qn ⟨λe=>(by cases e),λ_=>?_⟩))
  ·simp only[Qx]at hc;have h:i<a.length:=by omega
   have i2:i<b.length:=by omega
   rw[Qs,Qs,Qp h,Qp i2,Qa,Qa];have hx:=ha _ (Xn h);have hy:=hb _ (Xn i2);rw[Qwn hx.1 hy.1 hx.2 hy.2,Qa];by_cases c:a[i]=b[i]
   ·rw[Qt c];refine T2 (QG ⟨h,Qj h la,λj hj=>?_⟩);rw[Qj h la]at hj;by_cases cj:j=i
    ·subst cj;rw[Qp h,Qp i2,c]
    exact hJ j (by omega)
   rw[Qz c];refine T2 (Qn ⟨λ_ e=>c ?_,λe=>by cases e⟩);subst e;rfl
  simp only[QS]at hc;refine List.ext_getElem? λj=>?_;by_cases cj:j<i
  ·exact hJ j (by omega)
  rw[Zv (by omega),Zv (by omega)]
 obtain⟨q,q1,q2,q3⟩:=O;rw[q1,Qa];rcases q with q | q
 ·rw[Qz (q2 rfl)];rfl
 rw[Qt (q3 rfl)];rfl
def Xv.rt (O:Xv n m):∀x∈m,Rt x/\x.length<=maxLen:=λx hx=>by
 have mx:(1024:Nat)<=maxLen:=by decide
 obtain⟨h,h2⟩:=O.1.2 x hx;exact⟨h,by omega⟩
def QnR (h:QT n){b:L_ Bag}(O:Xv n a)(hb:Xv n b):GR a b=C (decide (a=b)):=by
 have hpl:=h.pl;have mx:(70:Nat)<=maxLen:=by decide
 exact QpD (by rw[O.1.1,hb.1.1]) (by rw[O.1.1];omega) O.rt hb.rt
def QpE (hl:l.length<=maxLen)(hS:∀y∈l,GR y m=C (decide (y=m))):Cq l m=C (l.any λy=>decide (y=m)):=by
 unfold Cq;have main:Qg (Qh (λst=>IE l m st) 0) λq=>(q=.inl ()->∃y∈l,y=m)/\(q=.inr ()->∀y∈l,y≠m):=by
  refine Qg.up l.length (λst=>st) (λst=>∀y∈l.take st.toNat,y≠m) rfl (λy h=>by cases h) (λi st hi hn hJ=>?_);replace hi:st=(i:Int):=hi;subst hi;rw[Xs]at hJ;show Qg (IE l m i) _;unfold IE;refine T1 (λhc=>?_) (λhc=>T2 (Qn ⟨λe=>(by cases e),λ_=>?_⟩))
  ·simp only[Qx]at hc;have O:i<l.length:=by omega
   rw[Qs,Qp O,Qa,hS _ (Xn O),Qa];by_cases c:l[i]=m
   ·rw[Qt c];exact T2 (Qn ⟨λ_=>⟨_,Xn O,c⟩,λe=>by cases e⟩)
   rw[Qz c];refine T2 (QG ⟨O,Qj O hl,λy h=>?_⟩);rw[Qj O hl,Xs,WX O]at h;rcases XU.1 h with h | h
   ·exact hJ y h
   simp at h;subst h;exact c
  simp only[QS]at hc;rw[JE (by omega)]at hJ;exact hJ
 obtain⟨q,q1,q2,q3⟩:=main;rw[q1,Qa];rcases q with q | q
 ·obtain⟨y,h,e⟩:=q2 rfl;rw[show(l.any λy=>decide (y=m))=true from EX.2 ⟨y,h,Qt e⟩];rfl
 rw[show(l.any λy=>decide (y=m))=false from List.any_eq_false.2 λy h=>by simpa using q3 rfl y h];rfl
def Qvc (h:QT n)(hl:l.length<=maxLen)(O:∀x∈l,Xv n x)(hm:Xv n m):Cq l m=C (l.any λy=>decide (y=m)):=QpE hl λy hy=>QnR h (O y hy) hm
def Qyi {c:Int}(h:Yg n m o=C (y,c))(hc:c≠0):y=[]:=by
 have bad:∀{a:Int} {v:L_ Bag},(a != 0)=false->C (v,a)=C (y,c)->y=[]:=λh0 e=>by
  simp only[Option.some.injEq,Prod.mk.injEq]at e;obtain⟨_,rfl⟩:=e;exact absurd (by simpa using h0) hc
 have nil:∀{a:Int},C (([]:L_ Bag),a)=C (y,c)->y=[]:=λe=>by
  simp only[Option.some.injEq,Prod.mk.injEq]at e;exact e.1.symm
 unfold Yg at h;obtain⟨x,_,h⟩:=QU h;rcases Ye h with⟨_,h⟩|⟨_,h⟩
 ·exact nil h
 obtain⟨z,O,h⟩:=QU h;simp only[Option.some.injEq,Prod.mk.injEq]at h;obtain⟨rfl,rfl⟩:=h;unfold GG at O;obtain⟨x8,_,O⟩:=QU O;rcases Ye O with⟨_,O⟩|⟨_,O⟩
 ·rw[<-Option.some.inj O]
 obtain⟨_,_,O⟩:=QU O;obtain⟨_,_,O⟩:=QU O;obtain⟨q,_,O⟩:=QU O;unfold EG at O;obtain⟨w,hw,O⟩:=QU O;rw[<-Option.some.inj O]at hc ⊢;simp only at hc ⊢;unfold KF at hw;obtain⟨_,_,hw⟩:=QU hw;obtain⟨u,_,hw⟩:=QU hw;rcases u with u | u
 ·replace hw:LL u=C w:=hw;unfold LL at hw;rw[<-Option.some.inj hw]
 replace hw:LM u=C w:=hw;unfold LM at hw;rw[<-Option.some.inj hw]at hc;exact absurd rfl hc
def Qvd (h:QT n)(ha:Xv n a):GR a []=C (decide (a=[])):=by
 cases a with
 | nil=>exact QpD rfl (MU _) (λx O=>by cases O) λx O=>by cases O
 | cons x r=>
  unfold GR;rw[show(((x::r).length:Int) != (([]:L_ Bag).length:Int))=true by simp;omega,Qz (by simp)];rfl
def QtC (h:QT n)(hl:l.length<=maxLen)(O:∀x∈l,Xv n x):Cq l []=C (l.any λy=>decide (y=[])):=QpE hl λy hy=>Qvd h (O y hy)
def QwX (budget:Int):min2 (max2 budget 0) 4096=(QY budget:Int):=by
 rw[(Qfr budget).1];unfold max2 min2
 repeat' split
 all_goals omega
def Qxp (h:QT n)(hp:n.Places.length<=64)(hg:∀x∈l,Xv n x)(hy:Xv n y):(l.any λz=>decide (z=y))=Qia Xp l y:=by
 have e:Qia Xp l y=l.any λz=>decide (Xp z=Xp y):=rfl;rw[e];refine NC.2 ?_;rw[EX,EX];constructor
 ·rintro ⟨z,O,e⟩;exact⟨z,O,Qt (congrArg Xp (Xd e))⟩
 rintro ⟨z,O,e⟩;exact⟨z,O,Qt (QiT h hp (hg z O) hy (Xd e))⟩
def Qr7 (w budget:Int)(h:QT n)(hr:RN n)(hb:Bd n)(hp:n.Places.length<=64)(hg:Xv n m):RA n m w budget=C (Fd n w budget m):=by
 have hm:=Qfr budget;have hpl:=h.pl;have mx:(4194304:Nat)<=maxLen:=by decide
 unfold RA Fd;rw[QwX];by_cases c0:QY budget=0
 ·rw[if_pos c0,c0];rfl
 rw[if_neg c0,show((QY budget:Int)==0)=false by simp;omega];simp only[Qi];generalize hR:Ex Xp (Fc n w) (QY budget) (QY budget+1) [m] 0=R;have main:Qg (Qh (λst=>IG n w budget st.1 st.2) ((0:Int),[m])) λq:L_ (L_ Bag)⊕L_ (L_ Bag)=>(∀l,q=.inl l->R=(l,false))/\∀l,q=.inr l->R=(l,true):=by
  refine Qg.up (QY budget) (λst=>st.1) (λst=>(∀x∈st.2,Xv n x)/\st.2.length<=QY budget/\Ex Xp (Fc n w) (QY budget) (QY budget+1-st.1.toNat) st.2 st.1.toNat=R) rfl ⟨?_,?_,hR⟩ (λi st hi hn hJ=>?_)
  ·intro x hx;simp at hx;subst hx;exact hg
  ·show 1<=_;omega
  obtain⟨a,l⟩:=st;replace hi:a=(i:Int):=hi;subst hi;obtain⟨j2,j3,j4⟩:(∀x∈l,Xv n x)/\l.length<=QY budget/\Ex Xp (Fc n w) (QY budget) (QY budget+1-(i:Int).toNat) l (i:Int).toNat=R:=hJ;rw[Xs,show QY budget+1-i=(QY budget-i)+1 by omega,Ex]at j4;show Qg (IG n w budget i l) _;unfold IG;refine T1 (λhc=>?_) (λhc=>T2 (Qn ⟨λl' e=>(by cases e),λl' e=>?_⟩))
  ·simp only[Qx]at hc;have i1:i<l.length:=by omega
   have hx:=Qp i1;have hgx:=j2 _ (Xn i1);rw[Qs,hx,Qa];rw[hx]at j4;simp only at j4;generalize l[i]=x at hx hgx j4 ⊢;have hal:=QiR x h hb;rw[Qro h hr (hgx.len h) (by unfold XI;omega) (.inr λk=>by have:=Qit x (k:Int) h hb;omega),Qgq n x 9223372036854775807 h (hgx.len h) (by omega) (by omega) (.inr (by omega)),Qa];have hxl:=hgx.len h;have e0:(Ja n x).take (9223372036854775807:Int).toNat=Ja n x:=JE (by omega);rw[e0];have hok:=λo=>PW (o:=o) h hxl;have inner:Qg (Qh (λst=>IF (Ja n x) w i n budget st.1 st.2) ((0:Int),l)) λq:L_ (L_ Bag)⊕L_ (L_ Bag)=>
     (∀o,q=.inl o->YQ Xp (QY budget) l (Fc n w x)=.inl o)/\∀o,q=.inr o->YQ Xp (QY budget) l (Fc n w x)=.inr o/\(∀x∈o,Xv n x)/\o.length<=QY budget:=by
    generalize hT:YQ Xp (QY budget) l (Fc n w x)=T;have hT:YQ Xp (QY budget) l ((Ja n x).filterMap (Wr n w x))=T:=hT;generalize Ja n x=X at hT hal hok ⊢;refine Qg.up X.length (λst=>st.1) (λst=>(∀x∈st.2,Xv n x)/\st.2.length<=QY budget/\st.2[i]? = C x/\YQ Xp (QY budget) st.2 ((X.drop st.1.toNat).filterMap (Wr n w x))=T) rfl ⟨j2,j3,hx,hT⟩ (λk st hk hn2 hK=>?_);obtain⟨a,l⟩:=st;replace hk:a=(k:Int):=hk;subst hk;obtain⟨k2,k3,k4,O⟩:(∀x∈l,Xv n x)/\l.length<=QY budget/\l[i]? = C x/\YQ Xp (QY budget) l ((X.drop (k:Int).toNat).filterMap (Wr n w x))=T:=hK;rw[Xs]at O;show Qg (IF X w i n budget k l) _;unfold IF;refine T1 (λhc2=>?_) (λhc2=>T2 (Qn ⟨λo e=>(by cases e),λo e=>?_⟩))
    ·simp only[Qx]at hc2;have i2:k<X.length:=by omega
     have hw:Qe ((k:Int)+1)=((k+1:Nat):Int):=Qj i2 (by unfold maxLen;omega:X.length<=maxLen);have next:∀l',(∀x∈l',Xv n x)->l'.length<=QY budget->l'[i]? = C x->YQ Xp (QY budget) l' ((X.drop (k+1)).filterMap (Wr n w x))=T->
       Qg (ER k l') λo=>(∀s',o=.inl s'->k<X.length/\s'.1=((k+1:Nat):Int)/\(∀x∈s'.2,Xv n x)/\s'.2.length<=QY budget/\s'.2[i]? = C x/\YQ Xp (QY budget) s'.2 ((X.drop s'.1.toNat).filterMap (Wr n w x))=T)/\
        ∀r:L_ (L_ Bag)⊕L_ (L_ Bag),o=.inr r->(∀o,r=.inl o->T=.inl o)/\∀o,r=.inr o->T=.inr o/\(∀x∈o,Xv n x)/\o.length<=QY budget:=λl' f2 f3 f4 f5=>by
      unfold ER;refine T2 (QG (ix:=λst:Int×L_ (L_ Bag)=>st.1) (J:=λst:Int×L_ (L_ Bag)=>(∀x∈st.2,Xv n x)/\st.2.length<=QY budget/\st.2[i]? = C x/\YQ Xp (QY budget) st.2 ((X.drop st.1.toNat).filterMap (Wr n w x))=T) ⟨i2,hw,f2,f3,f4,?_⟩);show YQ Xp (QY budget) l' ((X.drop (Qe ((k:Int)+1)).toNat).filterMap (Wr n w x))=T;rw[hw,Xs];exact f5
     rw[Qs,Qp i2,Qa];rw[Fz i2,List.filterMap_cons]at O;have hox:=hok _ (Xn i2);generalize X[k]=o at O hox ⊢;refine T1 (λhc3=>?_) λhc3=>?_
     ·have:Wr n w x o=none:=by unfold Wr;rw[if_pos (by simpa using hc3)]
      rw[this]at O;exact next l k2 k3 k4 O
     simp only[beq_eq_false_iff_ne]at hc3;rw[Qs,k4,Qa,Qa];obtain⟨⟨y,c⟩,hD,_⟩:=Qo4 n x o 1024 h hgx.1 (by omega) hox;rw[Qsw h hr (by omega) hgx.1 hox,hD,Qa];by_cases cc:c=0
     ·subst cc;have hgy:=Zo h hgx hox hD;have:Wr n w x o=C y:=by unfold Wr;rw[if_neg hc3,hD];rfl
      rw[this]at O;simp only at O;rw[YQ]at O;simp only;rw[Qvc h (by omega) k2 hgy,Qa,Qxp h hp k2 hgy,show((0:Int) != 0)=false from rfl,SZ];refine T1 (λhh=>?_) λhh=>?_
      ·rw[if_pos hh]at O;exact next l k2 k3 k4 O
      rw[if_neg (by rw[hh];decide)]at O;rw[QwX];refine T1 (λhf=>?_) λhf=>?_
      ·simp only[Qx]at hf;rw[if_pos (by omega)]at O;exact T2 (Qn ⟨λo e=>(by cases e;exact O.symm),λo e=>by cases e⟩)
      simp only[QS]at hf;rw[if_neg (by omega)]at O;refine T0 (T5 (by simp;omega)) λ_ _=>?_;refine next _ (λz hz=>?_) (by simp;omega) (by rw[Jo ((QX.1 k4).1)];exact k4) O;rcases XU.1 hz with hz | hz
      ·exact k2 z hz
      simp at hz;subst hz;exact hgy
     have:Wr n w x o=none:=by unfold Wr;rw[if_neg hc3,hD];simp only;rw[if_neg cc]
     rw[this]at O;obtain rfl:=Qyi hD cc;simp only;rw[QtC h (by omega) k2,Qa,show(c != 0)=true by simpa using cc,Bool.true_or,Ql];exact next l k2 k3 k4 O
    cases e;simp only[QS]at hc2;rw[Qfx (by omega),List.filterMap_nil,YQ]at O;exact⟨O.symm,k2,k3⟩
   obtain⟨q,hq1,hq2,hq3⟩:=inner;rw[hq1,Qa];rcases q with q | o
   ·have:=hq2 q rfl;rw[this]at j4;show Qg (Sx q) _;unfold Sx;exact T2 (Qn ⟨λl' e=>(by cases e;exact j4.symm),λl' e=>by cases e⟩)
   obtain⟨f1,f3,f4⟩:=hq3 o rfl;rw[f1]at j4;simp only at j4;show Qg (Sy i o) _;unfold Sy;have hw:Qe ((i:Int)+1)=((i+1:Nat):Int):=Qj (by omega:i<QY budget) (by unfold maxLen;omega);refine T2 (QG ⟨by omega,hw,f3,f4,?_⟩);show Ex Xp (Fc n w) (QY budget) (QY budget+1-(Qe ((i:Int)+1)).toNat) o (Qe ((i:Int)+1)).toNat=R;rw[hw,Xs,show QY budget+1-(i+1)=QY budget-i by omega];exact j4
  cases e;simp only[QS]at hc;rw[Zv (by omega)]at j4;exact j4.symm
 obtain⟨q,hq1,hq2,hq3⟩:=main;rw[hq1,Qa];rcases q with q | q
 ·rw[hq2 q rfl];rfl
 rw[hq3 q rfl];rfl
end Go.Proofs
