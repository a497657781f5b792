/- A part of the proof; what it holds is told at each theorem. -/
import Derived.Test.YtpijolohkdchcaaGreatDoorR1P2
import Derived.Test.YtpijolohkdchcaaGreatDoorR1P1
import Derived.Test.YtpijolohkdchcaaGreatDoorR1P2
import Derived.Test.YtpijolohkdchcaaGreatDoorR1P2
import Derived.Test.YtpijolohkdchcaaGreatDoorR1P2
set_option linter.unusedVariables false
set_option linter.unusedSimpArgs false
set_option linter.unusedSectionVars false
set_option linter.deprecated false
noncomputable section
namespace Go.Proofs
open Go Go.RowKit Go.Vm
theorem QfP {α:Type}{l:List α}{i:Nat}(h:i<l.length):l.take (i+1)=l.take i++[l[i]]:=by rw [QjA,QH h];rfl
theorem Qre {l:List (Int×Int)}{x:Int×Int}:Asc (l++[x])↔Asc l/\∀p∈l,p.1<x.1:=by
 unfold Asc
 rw [List.pairwise_append]
 constructor
 ·rintro ⟨h1,_,h2⟩;exact⟨h1,fun p hp=>h2 p hp x (by simp)⟩
 rintro ⟨h1,h2⟩;exact⟨h1,by simp,fun p hp q hq=>by simp at hq;subst hq;exact h2 p hp⟩
theorem QA1 {b:List (Int×Int)}(h:Asc b){i:Nat}(hi:i<b.length):∀p∈b.take i,p.1<b[i].1:=by
 have:=h.sublist (List.take_sublist (i+1) b)
 rw [QfP hi]at this
 exact(Qre.1 this).2
theorem QkR {b:List (Int×Int)}(h:b.length<=maxLen):Qc3 b=some (rtF (-1) b):=by
 unfold Qc3
 obtain⟨r,hr,h1⟩:=Qlw (body:=fun st:Int=>QcW b st) b.length (fun i s=>s=(i:Int)/\Rt (b.take i)) (fun r=>r=bif rtF (-1) b then .inr ()else .inl ()) (fun i s hi hI=>by
  obtain⟨rfl,hI⟩:=hI
  have hx:b[i]? = some b[i]:=QH hi
  show(∃s',QcW b i=_/\_)\/∃r,QcW b i=_/\_
  unfold QcW QqM QiT
  rw [QI (by omega),cond_true,Q1,hx]
  simp only [Ql]
  have stop:¬Rt b->∃r:Unit⊕Unit,some (Sum.inr (Sum.inl ()))=(some (Sum.inr r):Option (Int⊕(Unit⊕Unit)))/\r=bif rtF (-1) b then .inr ()else .inl ():=fun hb=>by
   rw [<-Qbf,Qjx]at hb
   rw [hb];exact⟨_,rfl,rfl⟩
  have hm:=QaI hi
  by_cases c1:b[i].1<0
  ·rw [QI c1]
   exact .inr (stop fun hb=>by have:=hb.2 _ hm;omega)
  rw [QK c1,cond_false]
  by_cases c2:b[i].2<1
  ·rw [QI c2]
   exact .inr (stop fun hb=>by have:=hb.2 _ hm;omega)
  rw [QK c2,cond_false]
  by_cases c3:1048576<b[i].2
  ·rw [QI c3]
   exact .inr (stop fun hb=>by have:=hb.2 _ hm;omega)
  rw [QK c3,cond_false]
  have go:(∀p∈b.take i,p.1<b[i].1)->Rt (b.take (i+1)):=fun hp=>by
   rw [QfP hi]
   refine⟨Qre.2 ⟨hI.1,hp⟩,fun p hp=>?_⟩
   rcases Qcm.1 hp with hp | hp
   ·exact hI.2 p hp
   simp at hp;subst hp;omega
  by_cases c4:0<i
  ·rw [QI (by omega:(0:Int)<(i:Int)),cond_true,Q4 (n:=(i:Int)-1) (by unfold maxLen at h;omega),show(i:Int)-1=((i-1:Nat):Int) by omega,Q1,QH (show i-1<b.length by omega)]
   simp only [Ql]
   by_cases c5:b[i].1<=(b[i-1]'(by omega)).1
   ·rw [QI c5]
    exact .inr (stop fun hb=>by
     have:=List.pairwise_iff_getElem.1 hb.1 (i-1) i (by omega) hi (by omega)
     omega)
   rw [QK c5]
   refine .inl ⟨_,rfl,Qx hi h,go fun p hp=>?_⟩
   obtain⟨j,hj,rfl⟩:=Qv1.1 hp
   rw [Qe0]at hj
   rw [List.getElem_take]
   by_cases hji:j=i-1
   ·subst hji;omega
   have:=List.pairwise_iff_getElem.1 hI.1 j (i-1) (by simp;omega) (by simp;omega) (by omega)
   rw [List.getElem_take,List.getElem_take]at this
   omega
  ·rw [QK (by omega:¬(0:Int)<(i:Int)),cond_false]
   refine .inl ⟨_,rfl,Qx hi h,go fun p hp=>?_⟩
   rw [show i=0 by omega]at hp;cases hp) (fun s hI=>by
  obtain⟨rfl,hI⟩:=hI
  rw [Qht]at hI
  refine⟨_,?_,rfl⟩
  show QcW b (b.length:Int)=_
  unfold QcW
  rw [QK (by omega),Qbf.2 hI];rfl) 0 ⟨rfl,Rt.nil⟩
 rw [hr,h1]
 cases rtF (-1) b<;>rfl
theorem QvW {b:List (Int×Int)}(h:b.length<=maxLen)(hb:Rt b)(m:Int):QgS b m=some (QB b m):=by
 unfold QgS
 rw [QkR h,Qbf.2 hb,Ql]
 obtain⟨r,hr,h1⟩:=Qlw (body:=fun st:Int=>QcX b true m st) b.length (fun i s=>s=(i:Int)/\∀p∈b.take i,p.1≠m) (fun r=>r=.inl (QB b m)\/(r=.inr ()/\QB b m=0)) (fun i s hi hI=>by
  obtain⟨rfl,hI⟩:=hI
  have hx:b[i]? = some b[i]:=QH hi
  show(∃s',QcX b true m i=_/\_)\/∃r,QcX b true m i=_/\_
  unfold QcX
  rw [QI (by omega),QpF,cond_true,Q1,hx]
  simp only [Ql]
  by_cases e:b[i].1=m
  ·rw [show(b[i].1==m)=true by simpa using e]
   refine .inr ⟨_,rfl,.inl ?_⟩
   rw [<-e,QgU hb.1.nd (QaI hi)]
  ·rw [show(b[i].1==m)=false by simpa using e]
   refine .inl ⟨_,rfl,Qx hi h,fun p hp=>?_⟩
   rw [QfP hi]at hp
   rcases Qcm.1 hp with hp | hp
   ·exact hI p hp
   simp at hp;subst hp;exact e) (fun s hI=>by
  obtain⟨rfl,hI⟩:=hI
  rw [Qht]at hI
  refine⟨.inr (),?_,.inr ⟨rfl,?_⟩⟩
  ·show QcX b true m (b.length:Int)=_
   unfold QcX
   rw [QK (by omega)];rfl
  unfold QB;rw [Qmu.2 hI];rfl) 0 ⟨rfl,fun p hp=>by cases hp⟩
 rw [hr]
 rcases h1 with rfl | ⟨rfl,e⟩
 ·rfl
 rw [e];rfl
theorem QA2 {b:List (Int×Int)}(h:b.length<=4294967295)(hb:Rt b){m n:Int}(hm:0<=m)(hn:0<=n/\n<=1048576):∃r,QkL b m n=some r/\Rt r/\(∀k,QB r k=if k=m then n else QB b k)/\r.length<=b.length+1:=by
 have hl:b.length<=maxLen:=by unfold maxLen;omega
 unfold QkL
 obtain⟨⟨dn,out⟩,hr,h1,h2,h3,h4⟩:=Qlw (body:=fun st:Bool×Int×List (Int×Int)=>Qen b m n st.1 st.2.1 st.2.2) b.length
  (fun i s=>s.2.1=(i:Int)/\(s.1=true↔∃p∈b.take i,m<=p.1)/\Asc s.2.2/\(∀p,p∈s.2.2↔(p.1≠m/\p∈b.take i)\/(s.1=true/\0<n/\p=(m,n)))/\s.2.2.length<=i+(bif s.1 then 1 else 0))
  (fun r=>(r.1=true↔∃p∈b,m<=p.1)/\Asc r.2/\(∀p,p∈r.2↔(p.1≠m/\p∈b)\/(r.1=true/\0<n/\p=(m,n)))/\r.2.length<=b.length+(bif r.1 then 1 else 0)) (fun i s hi hI=>by
   obtain⟨d,a,out⟩:=s
   obtain⟨h1,h2,h3,h4,h5⟩:=hI
   replace h1:a=(i:Int):=h1
   subst h1
   replace h2:d=true↔∃p∈b.take i,m<=p.1:=h2
   replace h3:Asc out:=h3
   replace h4:∀p,p∈out↔(p.1≠m/\p∈b.take i)\/(d=true/\0<n/\p=(m,n)):=h4
   replace h5:out.length<=i+(bif d then 1 else 0):=h5
   have hx:b[i]? = some b[i]:=QH hi
   have hup:=QA1 hb.1 hi
   left
   show ∃s',Qen b m n d i out=_/\_
   unfold Qen Qr2 Qkc Qg8
   rw [QI (by omega),cond_true]
   have own:∀(d':Bool) (out':List (Int×Int)),(d'=true↔∃p∈b.take (i+1),m<=p.1)->Asc out'->(∀p,p∈out'↔(p.1≠m/\p∈b.take i)\/(d'=true/\0<n/\p=(m,n)))->out'.length<=i+(bif d' then 1 else 0)->(∀p∈out',b[i].1≠m->p.1<b[i].1)->
     ∃s',Qg7 b i m d' out'=some (.inl s')/\(s'.2.1=((i+1:Nat):Int)/\(s'.1=true↔∃p∈b.take (i+1),m<=p.1)/\Asc s'.2.2/\(∀p,p∈s'.2.2↔(p.1≠m/\p∈b.take (i+1))\/(s'.1=true/\0<n/\p=(m,n)))/\s'.2.2.length<=i+1+(bif s'.1 then 1 else 0)):=fun d' out' g1 g2 g3 g4 g5=>by
    unfold Qg7 Qkb
    have hdl:(bif d' then 1 else 0:Nat)<=1:=by cases d'<;>decide
    rw [Q1,hx]
    simp only [Ql]
    by_cases e:b[i].1=m
    ·rw [show(b[i].1 != m)=false by simpa using e]
     refine⟨_,rfl,Qx hi hl,g1,g2,fun p=>?_,by show out'.length<=_;omega⟩
     show p∈out'↔_
     rw [g3,QfP hi,Qcm,Qod]
     constructor
     ·rintro (⟨x1,x2⟩|x)
      ·exact .inl ⟨x1,.inl x2⟩
      exact .inr x
     rintro (⟨x1,x2 | rfl⟩|x)
     ·exact .inl ⟨x1,x2⟩
     ·exact absurd e x1
     exact .inr x
    rw [show(b[i].1 != m)=true by simpa using e,cond_true,QgA (by simp;omega)]
    refine⟨_,rfl,Qx hi hl,g1,Qre.2 ⟨g2,fun p hp=>g5 p hp e⟩,fun p=>?_,by show(out'++[b[i]]).length<=_;rw [QcQ];simp;omega⟩
    show p∈out'++[b[i]]↔_
    rw [Qcm,Qod,g3,QfP hi,Qcm,Qod]
    constructor
    ·rintro ((⟨x1,x2⟩|x) | rfl)
     ·exact .inl ⟨x1,.inl x2⟩
     ·exact .inr x
     exact .inl ⟨e,.inr rfl⟩
    rintro (⟨x1,x2 | x2⟩|x)
    ·exact .inl (.inl ⟨x1,x2⟩)
    ·exact .inr x2
    exact .inl (.inr x)
   have grow:∀p:Int×Int,p∈b.take (i+1)↔p∈b.take i\/p=b[i]:=fun p=>by rw [QfP hi,Qcm,Qod]
   cases d with
   | true=>
    obtain⟨q,hq,hq2⟩:=h2.1 rfl
    rw [show(!true)=false from rfl,cond_false,Ql,cond_false]
    exact own true out ⟨fun _=>⟨q,(grow q).2 (.inl hq),hq2⟩,fun _=>rfl⟩ h3 h4 h5 fun p hp _=>by
     rcases(h4 p).1 hp with⟨_,x⟩|⟨_,_,rfl⟩
     ·exact hup p x
     have:=hup q hq;show m<_;omega
   | false=>
    have low:∀p∈b.take i,p.1<m:=fun p hp=>by
     apply Classical.byContradiction
     intro hc
     have:=h2.2 ⟨p,hp,by omega⟩
     cases this
    rw [show(!false)=true from rfl,cond_true,Q1,hx]
    simp only [Ql]
    by_cases e:m<=b[i].1
    ·rw [QI e,cond_true]
     have g1:(true=true↔∃p∈b.take (i+1),m<=p.1):=⟨fun _=>⟨b[i],(grow _).2 (.inr rfl),e⟩,fun _=>rfl⟩
     by_cases hn0:0<n
     ·rw [QI hn0,cond_true,QgA (by simp only [cond_false]at h5;simp;omega),Ql]
      refine own true (out++[(m,n)]) g1 (Qre.2 ⟨h3,fun p hp=>?_⟩) (fun p=>?_) (by simp only [cond_false]at h5;simp;omega) fun p hp he=>?_
      ·rcases(h4 p).1 hp with⟨_,x⟩|⟨x,_⟩
       ·exact low p x
       cases x
      ·rw [Qcm,Qod,h4]
       constructor
       ·rintro ((x | ⟨x,_⟩) | rfl)
        ·exact .inl x
        ·cases x
        exact .inr ⟨rfl,hn0,rfl⟩
       rintro (x | ⟨_,_,x⟩)
       ·exact .inl (.inl x)
       exact .inr x
      rcases Qcm.1 hp with hp | hp
      ·rcases(h4 p).1 hp with⟨_,x⟩|⟨x,_⟩
       ·exact hup p x
       cases x
      simp at hp;subst hp;show m<_;omega
     rw [QK hn0,cond_false]
     refine own true out g1 h3 (fun p=>?_) (by simp only [cond_false]at h5;simp;omega) fun p hp he=>?_
     ·rw [h4]
      constructor
      ·rintro (x | ⟨x,_⟩)
       ·exact .inl x
       cases x
      rintro (x | ⟨_,x,_⟩)
      ·exact .inl x
      exact absurd x hn0
     rcases(h4 p).1 hp with⟨_,x⟩|⟨x,_⟩
     ·exact hup p x
     cases x
    rw [QK e,cond_false]
    refine own false out ⟨(fun x=>by cases x),fun ⟨p,hp,hp2⟩=>?_⟩ h3 h4 h5 fun p hp he=>?_
    ·rcases(grow p).1 hp with x | rfl
     ·have:=low p x;omega
     exact absurd hp2 e
    rcases(h4 p).1 hp with⟨_,x⟩|⟨x,_⟩
    ·exact hup p x
    cases x) (fun s hI=>by
   obtain⟨d,a,out⟩:=s
   obtain⟨h1,h2,h3,h4,h5⟩:=hI
   replace h1:a=(b.length:Int):=h1
   subst h1
   rw [Qht]at h2 h4
   refine⟨(d,out),?_,h2,h3,h4,h5⟩
   show Qen b m n d b.length out=_
   unfold Qen
   rw [QK (by omega)];rfl) (false,0,[]) ⟨rfl,by simp,by simp [Asc],by simp,by simp⟩
 rw [hr,Ql]
 show ∃r,Qg9 n m dn out=some r/\_
 unfold Qg9 Qkd
 have fin:∀r:List (Int×Int),Asc r->(∀p,p∈r↔(p.1≠m/\p∈b)\/(0<n/\p=(m,n)))->Rt r/\∀k,QB r k=if k=m then n else QB b k:=fun r hA hmem=>by
  refine⟨⟨hA,fun p hp=>?_⟩,fun k=>?_⟩
  ·rcases(hmem p).1 hp with⟨_,x⟩|⟨x,rfl⟩
   ·exact hb.2 p x
   exact⟨hm,by show 1<=n;omega,hn.2⟩
  by_cases e:k=m
  ·subst e
   rw [if_pos rfl]
   by_cases hn0:0<n
   ·exact QgU hA.nd ((hmem (k,n)).2 (.inr ⟨hn0,rfl⟩))
   unfold QB
   rw [Qmu.2 fun p hp=>?_]
   ·show(0:Int)=n;omega
   rcases(hmem p).1 hp with⟨x,_⟩|⟨x,_⟩
   ·exact x
   exact absurd x hn0
  rw [if_neg e]
  unfold QB
  congr 1
  cases hq:QX b k with
  | some v=>exact(QbT hA.nd).2 ((hmem (k,v)).2 (.inl ⟨e,(QbT hb.1.nd).1 hq⟩))
  | none=>
   refine Qmu.2 fun p hp=>?_
   rcases(hmem p).1 hp with⟨_,x⟩|⟨_,rfl⟩
   ·exact Qmu.1 hq p x
   exact fun x=>e x.symm
 cases dn with
 | true=>
  obtain⟨f1,f2⟩:=fin out h2 fun p=>by rw [h3];simp
  exact⟨out,rfl,f1,f2,by simpa using h4⟩
 | false=>
  have low:∀p∈b,p.1<m:=fun p hp=>by
   apply Classical.byContradiction
   intro hc
   have:=h1.2 ⟨p,hp,by omega⟩
   cases this
  by_cases hn0:0<n
  ·rw [QI hn0]
   simp only [cond_false,QmY]at h4
   obtain⟨f1,f2⟩:=fin (out++[(m,n)]) (Qre.2 ⟨h2,fun p hp=>by
    rcases(h3 p).1 hp with⟨_,x⟩|⟨x,_⟩
    ·exact low p x
    ·cases x⟩) fun p=>by
    rw [Qcm,Qod,h3]
    constructor
    ·rintro ((x | ⟨x,_⟩) | rfl)
     ·exact .inl x
     ·cases x
     exact .inr ⟨hn0,rfl⟩
    rintro (x | ⟨_,x⟩)
    ·exact .inl (.inl x)
    exact .inr x
   refine⟨out++[(m,n)],?_,f1,f2,by simp;omega⟩
   rw [show(!false&&true)=true from rfl,cond_true,QgA (by simp;omega)];rfl
  rw [QK hn0]
  obtain⟨f1,f2⟩:=fin out h2 fun p=>by
   rw [h3]
   constructor
   ·rintro (x | ⟨x,_⟩)
    ·exact .inl x
    cases x
   rintro (x | ⟨x,_⟩)
   ·exact .inl x
   exact absurd x hn0
  exact⟨out,rfl,f1,f2,by simp only [cond_false,QmY]at h4;omega⟩
theorem QA3 {b:List (Int×Int)}(hb:Asc b){i:Nat}(hi:i<b.length)(k:Int):QB (b.take (i+1)) k=if k=b[i].1 then b[i].2 else QB (b.take i) k:=by
 have ha:Asc (b.take (i+1)):=hb.sublist (List.take_sublist _ _)
 by_cases e:k=b[i].1
 ·subst e
  rw [if_pos rfl]
  exact QgU ha.nd (by rw [QfP hi];exact List.mem_append_right _ QbE)
 rw [if_neg e]
 unfold QB
 congr 1
 have h0:Asc (b.take i):=hb.sublist (List.take_sublist _ _)
 cases hq:QX (b.take i) k with
 | some v=>exact(QbT ha.nd).2 (by rw [QfP hi];exact List.mem_append_left _ ((QbT h0.nd).1 hq))
 | none=>
  refine Qmu.2 fun p hp=>?_
  rw [QfP hi]at hp
  rcases Qcm.1 hp with hp | hp
  ·exact Qmu.1 hq p hp
  simp at hp;subst hp;exact fun x=>e x.symm
theorem QER {b:List (Int×Int)}(hb:Asc b){i:Nat}(hi:i<b.length):QB (b.take i) b[i].1=0:=by
 unfold QB
 rw [Qmu.2 fun p hp=>by have:=QA1 hb hi p hp;omega];rfl
theorem QA4 {a b:List (Int×Int)}(h:a.length+b.length<=4294967290):Qhn a b=Qe9 a b:=by
 unfold Qhn QsW Qlv
 have ha:a.length<=maxLen:=by unfold maxLen;omega
 have hb:b.length<=maxLen:=by unfold maxLen;omega
 rw [QkR ha,QkR hb,Ql]
 rcases QkP a b (by omega)with⟨h1,h2⟩|⟨h1,h2,⟨k,h3⟩,h4⟩|⟨h1,h2,r,h3,h4,h5,h6⟩
 ·rw [h2,<-Qbf,<-Qbf]at *
  cases ra:rtF (-1) a with
  | false=>rfl
  | true=>
   cases rb:rtF (-1) b with
   | false=>rfl
   | true=>exact absurd ⟨ra,rb⟩ h1
 all_goals
  rw [Qbf.2 h1,Qbf.2 h2]
  simp only [Qfe,cond_false,Ql,Qoe,QkU,QkW]
  rw [QgA (by omega),Ql]
  obtain⟨q,hq,hp⟩:=Qlw (body:=fun st:Int×List (Int×Int)=>QdZ b st.1 st.2) b.length
   (fun i s=>s.1=(i:Int)/\Rt s.2/\(∀k,QB s.2 k=QB a k+QB (b.take i) k)/\s.2.length<=a.length+i)
   (fun q=>(q=.inl ()/\∃k,1048576<QB a k+QB b k)\/∃r,q=.inr r/\Rt r/\∀k,QB r k=QB a k+QB b k) (fun i s hi hI=>by
    obtain⟨x,out⟩:=s
    obtain⟨g1,g2,g3,g4⟩:=hI
    replace g1:x=(i:Int):=g1
    subst g1
    replace g2:Rt out:=g2
    replace g3:∀k,QB out k=QB a k+QB (b.take i) k:=g3
    replace g4:out.length<=a.length+i:=g4
    have hx:b[i]? = some b[i]:=QH hi
    have hbi:=‹Rt b›.2 _ (QaI hi)
    show(∃s',QdZ b i out=_/\_)\/∃r,QdZ b i out=_/\_
    unfold QdZ
    rw [QI (by omega),cond_true,Q1,hx]
    simp only [Ql]
    have hc:=‹Rt a›.cnt b[i].1
    rw [QvW (by unfold maxLen;omega) g2,Ql,g3,QER ‹Rt b›.1 hi,Int.add_zero,Q4 (by omega)]
    by_cases e:1048576<QB a b[i].1+b[i].2
    ·rw [QI e]
     refine .inr ⟨_,rfl,.inl ⟨rfl,b[i].1,?_⟩⟩
     rw [QgU ‹Rt b›.1.nd (QaI hi)];exact e
    ·rw [QK e,cond_false]
     obtain⟨r,r1,r2,r3,r4⟩:=QA2 (b:=out) (by omega) g2 (m:=b[i].1) (n:=QB a b[i].1+b[i].2) (by omega) (by omega)
     rw [r1,Ql]
     refine .inl ⟨_,rfl,Qx hi hb,r2,fun k=>?_,by show r.length<=_;omega⟩
     show QB r k=_
     rw [r3,QA3 ‹Rt b›.1 hi,g3]
     by_cases ek:k=b[i].1
     ·subst ek;rw [if_pos rfl,if_pos rfl]
     rw [if_neg ek,if_neg ek]) (fun s hI=>by
    obtain⟨x,out⟩:=s
    obtain⟨g1,g2,g3,g4⟩:=hI
    replace g1:x=(b.length:Int):=g1
    subst g1
    rw [Qht]at g3
    refine⟨.inr out,?_,.inr ⟨out,rfl,g2,g3⟩⟩
    show QdZ b b.length out=_
    unfold QdZ
    rw [QK (by omega)];rfl) (0,a) ⟨rfl,by assumption,fun k=>by simp [QB,QX],by simp⟩
  rw [hq]
 ·rcases hp with⟨rfl,_⟩|⟨r,rfl,r1,r2⟩
  ·rw [h4];rfl
  have:=r1.cnt k
  rw [r2]at this;omega
 rcases hp with⟨rfl,k,hk⟩|⟨r',rfl,r1,r2⟩
 ·have:=h4.cnt k
  rw [h5]at this;omega
 have:r'=r:=QC7 r1 h4 fun k=>by rw [r2,h5]
 subst this
 rw [h3];rfl
theorem QwW {a b:List (Int×Int)}(ha:a.length<=maxLen)(hb:b.length<=maxLen):Qia a b=Qky a b:=by
 unfold Qia Qps QhJ
 rw [QkR ha,QkR hb,Ql]
 obtain⟨r,h1,h2⟩:=QnG a b ha hb
 rw [h1]
 cases ra:rtF (-1) a with
 | false=>
  have:r=false:=by
   cases r with
   | false=>rfl
   | true=>have:=Qbf.2 (h2.1 rfl).1;rw [ra]at this;cases this
  rw [this];rfl
 | true=>
  cases rb:rtF (-1) b with
  | false=>
   have:r=false:=by
    cases r with
    | false=>rfl
    | true=>have:=Qbf.2 (h2.1 rfl).2.1;rw [rb]at this;cases this
   rw [this];rfl
  | true=>
   have h3:=Qbf.1 ra
   have h4:=Qbf.1 rb
   simp only [Qfe,cond_false,Ql]
   rw [Qn5 (body:=fun st:Int=>Qdj a b st) (l:=a) (fun i=>(i:Int)) (fun _ x=>decide (QB b x.1<x.2)) (.inl ()) (.inr ()) (fun i x hi hx=>by
    show Qdj a b i=_
    unfold Qdj
    rw [QI (by omega),cond_true,Q1,hx]
    simp only [Ql]
    rw [QvW hb h4,Ql,Qx hi ha]
    cases decide (QB b x.1<x.2)<;>rfl) (by
    show Qdj a b a.length=_
    unfold Qdj
    rw [QK (by omega),cond_false]) (s0:=0) rfl,Ql]
   have e:∀(l:List (Int×Int)) (k:Nat),QnE (fun _ x=>decide (QB b x.1<x.2)) k l=l.any fun p=>decide (QB b p.1<p.2):=fun l=>by
    induction l with
    | nil=>intro k;rfl
    | cons x l ih=>intro k;rw [QnE,ih,List.any_cons]
   rw [e]
   have aw:=Qt5 h3 h4
   cases hq:a.any fun p=>decide (QB b p.1<p.2)with
   | false=>rw [h2.2 ⟨h3,h4,aw.1 hq⟩];rfl
   | true=>
    have:r=false:=by
     cases r with
     | false=>rfl
     | true=>rw [aw.2 (h2.1 rfl).2.2]at hq;cases hq
    rw [this];rfl
end Go.Proofs
noncomputable section
namespace Go.Proofs
open Go Go.RowKit Go.Vm
theorem Qsd {σ ρ:Type}{b1 b2:σ->Option (σ⊕ρ)}(n:Nat)(I:Nat->σ->Prop)(he:∀i s,I i s->b1 s=b2 s)(hn:∀i s s',I i s->b2 s=some (.inl s')->i<n/\I (i+1) s'):∀s0,I 0 s0->Qw b1 s0=Qw b2 s0:=by
 have key:∀(k i:Nat) s,n<=i+k->I i s->Qw b1 s=Qw b2 s:=by
  intro k
  induction k with
  | zero=>
   intro i s hk hI
   rw [QaR,QaR (body:=b2),he i s hI]
   cases hb:b2 s with
   | none=>rfl
   | some o=>
    cases o with
    | inr r=>rfl
    | inl s'=>have:=(hn i s s' hI hb).1;omega
  | succ k ih=>
   intro i s hk hI
   rw [QaR,QaR (body:=b2),he i s hI]
   cases hb:b2 s with
   | none=>rfl
   | some o=>
    cases o with
    | inr r=>rfl
    | inl s'=>exact ih (i+1) s' (by omega) (hn i s s' hI hb).2
 exact fun s0 h=>key n 0 s0 (by omega) h
structure RN (n:Qq):Prop where
 c:∀c∈n.Colours,IC c
 g:∀t∈n.Tasks,RE t.Guard
 i:∀t∈n.Tasks,∀a∈t.Ins,RE a.Expr
 o:∀t∈n.Tasks,∀a∈t.Outs,RE a.Expr
theorem QxN {n:Qq}(h:Qal n)(hr:RN n)(task:Int)(vars:List Int):∃r,QdB n task vars=some r/\Qji n task vars=some r/\(r.2=0->(∀x∈r.1,InI x)/\∃e,idx n.Tasks task=some e/\e∈n.Tasks):=by
 unfold QdB Qji
 cases hq:((decide (task<0))||(decide ((n.Tasks.length:Int)<=task)))with
 | true=>exact⟨_,rfl,rfl,fun h=>by cases h⟩
 | false=>
  simp only [QcP,Qah]at hq
  have he:idx n.Tasks task=some (n.Tasks[task.toNat]'(by omega)):=Ql7 (by omega) (by omega)
  have hm:(n.Tasks[task.toNat]'(by omega))∈n.Tasks:=QaI _
  rw [cond_false,cond_false,he,Ql,Ql]
  generalize (n.Tasks[task.toNat]'(by omega))=e at he hm
  have hv:=(h.tk e hm).1
  by_cases hl:(vars.length:Int)=(e.Vars.length:Int)
  ·rw [show((vars.length:Int) != (e.Vars.length:Int))=false by simpa using hl,cond_false,cond_false,Qor (by simp;omega),Ql]
   have mx:(16:Nat)<=maxLen:=by decide
   obtain⟨r,q,e1,e2,e3⟩:=Qrd (b1:=fun st:Int×List Int=>Qc1 e vars n st.1 st.2) (b2:=fun st:Int×List Int=>QfV e vars n st.1 st.2) e.Vars.length
    (fun i s t=>s=((i:Int),t.2++List.replicate (e.Vars.length-i) 0)/\t.1=(i:Int)/\t.2.length=i/\∀x∈t.2,InI x) (fun r q=>r=q/\∀l,r=.inr l->∀x∈l,InI x) (fun i s t hi hI=>by
     obtain⟨a,out⟩:=t
     obtain⟨rfl,h2,h3,h4⟩:=hI
     replace h2:a=(i:Int):=h2
     subst h2
     replace h3:out.length=i:=h3
     replace h4:∀x∈out,InI x:=h4
     show(i<e.Vars.length/\∃s' t',Qc1 e vars n i (out++List.replicate (e.Vars.length-i) 0)=_/\QfV e vars n i out=_/\_)\/∃r q,Qc1 e vars n i (out++List.replicate (e.Vars.length-i) 0)=_/\QfV e vars n i out=_/\_
     unfold Qc1 QfV
     by_cases hlt:i<e.Vars.length
     ·rw [QI (by omega:(i:Int)<(e.Vars.length:Int)),cond_true,cond_true,Q1,QH hlt,Q1,QH (show i<vars.length by omega)]
      simp only [Ql]
      obtain⟨y,y1,y2,y3⟩:=QBs h.k.1 hr.c (e.Vars[i]).Colour (vars[i]'(by omega))
      have hrep:List.replicate (e.Vars.length-i) (0:Int)=0::List.replicate (e.Vars.length-(i+1)) 0:=by
       rw [show e.Vars.length-i=(e.Vars.length-(i+1))+1 by omega];rfl
      rw [y1,y2,Ql,Ql]
      cases y.2 with
      | false=>exact .inr ⟨_,_,rfl,rfl,rfl,fun l h=>by cases h⟩
      | true=>
       left
       simp only [Qfe,cond_false]
       rw [Q1,hrep,QcA (by omega),h3,Nat.sub_self,QgA (by simp;omega)]
       refine⟨hlt,_,_,rfl,rfl,?_,Qx hlt (by omega),by simp;omega,fun x hx=>?_⟩
       ·rw [Qx hlt (by omega),Qff,List.set_append_right _ _ (by omega),h3,Nat.sub_self,Qgl];rfl
       rcases Qcm.1 hx with hx | hx
       ·exact h4 x hx
       simp at hx;subst hx;exact y3
     right
     rw [QK (by omega:¬(i:Int)<(e.Vars.length:Int))]
     have:i=e.Vars.length:=by omega
     subst this
     refine⟨_,_,rfl,rfl,?_,fun l hl=>?_⟩
     ·simp
     cases hl;simpa using h4) (0,List.replicate (e.Vars.length:Int).toNat 0) (0,[]) ⟨by simp,rfl,rfl,fun x h=>by cases h⟩
   obtain⟨e3,e4⟩:=e3
   subst e3
   rw [e1,e2]
   rcases r with r | r
   ·exact⟨_,rfl,rfl,fun h=>by cases h⟩
   exact⟨_,rfl,rfl,fun _=>⟨e4 r rfl,e,rfl,hm⟩⟩
  rw [show((vars.length:Int) != (e.Vars.length:Int))=true by simpa using hl]
  exact⟨_,rfl,rfl,fun h=>by cases h⟩
theorem Qsz {n:Qq}(h:Qal n)(hr:RN n){l:List Qas}(hl:QJ Qi9 l)(hre:∀a∈l,RE a.Expr){which env:List Int}(hw:which.length<=1000)(hv:∀x∈env,InI x):QeW n l which env=Qar n l which env:=by
 unfold QeW Qar
 congr 1
 funext _
 have mx:(1000:Nat)<=maxLen:=by decide
 have e:Qw (fun st:Int×List (List (Int×Int))=>QfB which l env n st.1 st.2) (0,(List.replicate (n.Places.length:Int).toNat (([]:(List (Int×Int))):(List (Int×Int)))))=Qw (fun st:Int×List (List (Int×Int))=>Qcf which l env n st.1 st.2) (0,(List.replicate (n.Places.length:Int).toNat (([]:(List (Int×Int))):(List (Int×Int))))):=by
  refine Qsd which.length (fun i s=>s.1=(i:Int)/\i<=which.length/\∀b∈s.2,b.length<=i) (fun i s hI=>?_) (fun i s s' hI hs=>?_) _ ⟨rfl,by omega,fun b hb=>by rw [Qma hb];simp⟩
  ·obtain⟨a,m⟩:=s
   obtain⟨h1,h2,h3⟩:=hI
   replace h1:a=(i:Int):=h1
   subst h1
   replace h3:∀b∈m,b.length<=i:=h3
   show QfB which l env n i m=Qcf which l env n i m
   unfold QfB Qcf
   cases decide ((i:Int)<(which.length:Int))with
   | false=>rfl
   | true=>
    rw [cond_true,cond_true]
    cases idx which (i:Int)with
    | none=>rfl
    | some k=>
     simp only [Ql]
     cases ((decide (k<0))||(decide ((l.length:Int)<=k)))with
     | true=>rfl
     | false=>
      rw [cond_false,cond_false]
      cases hk:idx l k with
      | none=>rfl
      | some a=>
       simp only [Ql]
       have ha:a∈l:=Qae (Qby hk).2
       obtain⟨x,x1,x2,x3⟩:=QzQ (hl.2 a ha).2 (hre a ha) hv
       rw [x1,x2,Ql,Ql]
       cases (x.2 != 0)with
       | true=>rfl
       | false=>
        rw [cond_false,cond_false]
        cases ((decide (a.Place<0))||(decide ((n.Places.length:Int)<=a.Place)))with
        | true=>rfl
        | false=>
         rw [cond_false,cond_false]
         cases idx n.Places a.Place with
         | none=>rfl
         | some p=>
          simp only [Ql]
          obtain⟨y,y1,y2⟩:=QBt h.k.1 hr.c p.Colour x.1 x3
          rw [y1,y2,Ql,Ql]
          cases hy:y.2 with
          | false=>rfl
          | true=>
           simp only [Qfe,cond_false]
           have y0:=QlC (QAR n.Colours p.Colour x.1 h.k.1) y1 hy
           cases hb:idx m a.Place with
           | none=>rfl
           | some b=>
            simp only [Ql]
            have hbl:=h3 b (Qae (Qby hb).2)
            rw [Qt6,QI y0,cond_true,Ql,QA4 (by simp;omega)]
  obtain⟨a,m⟩:=s
  obtain⟨h1,h2,h3⟩:=hI
  replace h1:a=(i:Int):=h1
  subst h1
  replace h3:∀b∈m,b.length<=i:=h3
  replace hs:Qcf which l env n i m=some (.inl s'):=hs
  unfold Qcf at hs
  rcases Qp hs with⟨c,hs⟩|⟨_,hs⟩
  ·have hlt:i<which.length:=by simpa using c
   obtain⟨k,_,hs⟩:=Qb hs
   rcases Qp hs with⟨_,hs⟩|⟨_,hs⟩
   ·cases hs
   obtain⟨a,_,hs⟩:=Qb hs
   obtain⟨x,_,hs⟩:=Qb hs
   rcases Qp hs with⟨_,hs⟩|⟨_,hs⟩
   ·cases hs
   obtain⟨a',_,hs⟩:=Qb hs
   rcases Qp hs with⟨_,hs⟩|⟨_,hs⟩
   ·cases hs
   obtain⟨p,_,hs⟩:=Qb hs
   obtain⟨y,_,hs⟩:=Qb hs
   rcases Qp hs with⟨_,hs⟩|⟨_,hs⟩
   ·cases hs
   obtain⟨b,hb,hs⟩:=Qb hs
   obtain⟨o,ho,hs⟩:=Qb hs
   obtain⟨u,hu,hs⟩:=Qb hs
   obtain⟨_,_,hs⟩:=Qb hs
   rcases Qp hs with⟨_,hs⟩|⟨cu,hs⟩
   ·cases hs
   cases hs
   refine⟨hlt,Qx hlt (by omega),by omega,fun c hc=>?_⟩
   have hbl:=h3 b (Qae (Qby hb).2)
   rw [Qt6]at ho
   have hol:o.length<=1:=by
    rw [<-Option.some.inj ho]
    cases decide (0<=y.1)<;>simp
   rcases Qn7 hc with rfl | hc
   ·rcases QkP b o (by omega)with⟨_,e⟩|⟨_,_,_,e⟩|⟨_,_,r,e,_,_,e2⟩
    ·rw [hu]at e;cases e;simp
    ·rw [hu]at e;cases e;simp
    rw [hu]at e;cases e;show r.length<=_;omega
   have:=h3 c hc;omega
  cases hs
 rw [e];rfl
theorem QyM {n:Qq}(h:Qal n)(hr:RN n){o:Qh}(ho:QaY n o):Qi6 n o=Qdu n o:=by
 unfold Qi6 Qdu
 obtain⟨r,e1,e2,e3⟩:=QxN h hr o.Task o.Vars
 rw [e1,e2,Ql,Ql]
 cases hz:(r.2 != 0)with
 | true=>rfl
 | false=>
  obtain⟨hv,e,he,hm⟩:=e3 (by simpa using hz)
  rw [cond_false,cond_false,he,Ql,Ql,Qsz h hr (h.k.2.2.1.2 e hm).2.2.2.2.2.1 (hr.i e hm) (by have:=ho.2.1;omega) hv]
theorem QyN {n:Qq}(h:Qal n)(hr:RN n){o:Qh}(ho:QaY n o):QgT n o=(QdB n o.Task o.Vars).bind fun x=>bif (x.2 != 0)then some ([],x.2)else(idx n.Tasks o.Task).bind fun e=>(Qar n e.Outs o.Outs x.1).bind fun y=>some (y.1,y.2):=by
 unfold QgT
 obtain⟨r,e1,e2,e3⟩:=QxN h hr o.Task o.Vars
 rw [e1,e2,Ql,Ql]
 cases hz:(r.2 != 0)with
 | true=>rfl
 | false=>
  obtain⟨hv,e,he,hm⟩:=e3 (by simpa using hz)
  rw [cond_false,cond_false,he,Ql,Ql,Qsz h hr (h.k.2.2.1.2 e hm).2.2.2.2.2.2.1 (hr.o e hm) (by have:=ho.2.2;omega) hv]
theorem QwX {a m:List (List (Int×Int))}(ha:QJ (QJ fun _=>True) a)(hm:QJ (QJ fun _=>True) m):Qib a m=Qfr a m:=by
 unfold Qib Qfr Qaf
 cases ((a.length:Int) != (m.length:Int))with
 | true=>rfl
 | false=>
  rw [cond_false,cond_false]
  have e:(fun st=>QhK a m st)=fun st=>QM a m st:=by
   funext i
   unfold QhK QM
   cases decide (i<(a.length:Int))with
   | false=>rfl
   | true=>
    rw [cond_true,cond_true]
    cases hx:idx a i with
    | none=>rfl
    | some x=>
     cases hy:idx m i with
     | none=>rfl
     | some y=>
      simp only [Ql]
      rw [QwW (ha.2 x (Qae (Qby hx).2)).1 (hm.2 y (Qae (Qby hy).2)).1]
  rw [e]
  cases Qw (fun st=>QM a m st) 0 with
  | none=>rfl
  | some q=>cases q<;>rfl
theorem Qwe (a b:List Int)(ha:a.length<=maxLen):Qh8 a b=some (decide (a=b)):=by
 rw [<-QyI a b ha];rfl
theorem QyO (kind arcs:Int)(row:List Int):Qh9 kind arcs row=some (decide (row∈chC kind arcs)):=by
 unfold Qh9
 obtain⟨e,hx⟩:=Qtd kind arcs
 rw [Qrc,e,Ql]
 generalize chC kind arcs=x at hx
 have mx:(16:Nat)<=maxLen:=by decide
 have hl:=hx.1
 rw [Qn5 (body:=fun st:Int=>Qdi x row st) (l:=x) (fun i=>(i:Int)) (fun _ y=>decide (y=row)) (.inl ()) (.inr ()) (fun i y hi hy=>by
  show Qdi x row i=_
  unfold Qdi
  rw [QI (by omega),cond_true,Q1,hy,Ql,Qwe _ _ (by have:=hx.2 y (Qae hy);omega),Ql,Qx hi (by omega)]
  cases decide (y=row)<;>rfl) (by
  show Qdi x row x.length=_
  unfold Qdi
  rw [QK (by omega),cond_false]) (s0:=0) rfl,Ql]
 by_cases hm:row∈x
 ·obtain⟨i,hi⟩:=Qmd.1 hm
  have:QnE (fun _ y=>decide (y=row)) 0 x=true:=Qxx.2 ⟨i,row,hi,by simp⟩
  rw [this,QI hm];rfl
 have:QnE (fun _ y=>decide (y=row)) 0 x=false:=Qt0.2 fun i y hy=>QK fun e=>hm (e▸Qae hy)
 rw [this,QK hm];rfl
theorem QFp {l:List Int}(hl:l.length<=maxLen)(k:Int):QpT l k=some (decide (k∈l)):=by
 unfold QpT
 rw [Qn5 (body:=fun st:Int=>Qft l k st) (l:=l) (fun i=>(i:Int)) (fun _ y=>y==k) (.inl ()) (.inr ()) (fun i y hi hy=>by
  show Qft l k i=_
  unfold Qft
  rw [QI (by omega),cond_true,Q1,hy,Ql,Qx hi hl]
  cases (y==k)<;>rfl) (by
  show Qft l k l.length=_
  unfold Qft
  rw [QK (by omega),cond_false]) (s0:=0) rfl,Ql]
 by_cases hm:k∈l
 ·obtain⟨i,hi⟩:=Qmd.1 hm
  have:QnE (fun _ y=>y==k) 0 l=true:=Qxx.2 ⟨i,k,hi,by simp⟩
  rw [this,QI hm];rfl
 have:QnE (fun _ y=>y==k) 0 l=false:=Qt0.2 fun i y hy=>by
  have:=Qae hy
  simp only [beq_eq_false_iff_ne]
  intro e;exact hm (e▸this)
 rw [this,QK hm];rfl
theorem QFq {l:List Int}(hl:l.length<=maxLen)(k:Int):QaE l k=some (decide (k∈l)):=by
 unfold QaE Qds
 rw [QDm (l:=l) (fun y=>k==y) (fun i x hi hx=>by
  show QaD l k i=_
  unfold QaD
  rw [QI (by omega),cond_true,Q1,hx,Ql,Qx hi hl]
  cases (k==x)<;>rfl) (by
  show QaD l k l.length=_
  unfold QaD
  rw [QK (by omega),cond_false])]
 have e:decide (k∈l)=l.any fun y=>k==y:=by
  apply Qth.2
  simp [Ql9]
 rw [e,<-QEt]
 cases Qlx (fun _ y=>k==y) 0 l<;>rfl
end Go.Proofs
noncomputable section
namespace Go.Proofs
open Go Go.RowKit Go.Vm
def chP (arcs:Nat):Bool:=((QaF 3 arcs).getD []).all fun row=>(List.range arcs).all fun k=>decide ((k:Int)∈row)||decide (Qoo row k=some (QeD (row++[(k:Int)])))
theorem QFr {arcs:Nat}{row:List Int}(h:row∈chC 3 arcs){k:Nat}(hk:k<arcs)(hn:(k:Int) ∉ row):Qoo row k=some (QeD (row++[(k:Int)])):=by
 by_cases h4:arcs<=4
 ·have c:chP arcs=true:=by
   rcases show arcs=0\/arcs=1\/arcs=2\/arcs=3\/arcs=4 by omega with e | e | e | e | e<;>subst e<;>kernel_rfl
  have:=Qad.1 (Qad.1 c row h) k (QkV.2 hk)
  rw [QK hn,Bool.false_or]at this
  exact Qak this
 exfalso
 unfold chC QaF at h
 have:((decide ((arcs:Int)<0))||((decide ((16:Int)<(arcs:Int)))||(((3:Int)==3)&&(decide ((4:Int)<(arcs:Int))))))=true:=by simp;omega
 rw [this]at h
 simp at h
theorem QCx {n:Qq}(h:Qal n)(hr:RN n){m:List (List (Int×Int))}(hm:QJ (QJ fun _=>True) m){o:Qh}(ho:QaY n o){e:QG}(he:e∈n.Tasks)(hj:e.Join=3){env:List Int}{z:Int}(hv:∀x∈env,InI x)(hch:o.Ins∈chC e.Join e.Ins.length):
  Qw (fun st=>Qcj e o n (env,z) m st) 0=Qw (fun st=>Qam (QO.mk n m e env) o.Ins st) 0:=by
 have hi:=(h.tk e he).2.1
 have mx:(1000:Nat)<=maxLen:=by decide
 have hil:=ho.2.1
 rw [hj]at hch
 refine Qsd (b1:=fun st=>Qcj e o n (env,z) m st) (b2:=fun st=>Qam (QO.mk n m e env) o.Ins st) e.Ins.length (fun i s=>s=(i:Int)) (fun i s hI=>?_) (fun i s s' hI hs=>?_) 0 rfl
 ·subst hI
  show Qcj e o n (env,z) m i=Qam (QO.mk n m e env) o.Ins i
  unfold Qcj Qam
  rw [hj,show((3:Int)==3)=true from rfl,Bool.and_true]
  by_cases hlt:i<e.Ins.length
  ·rw [QI (by omega:(i:Int)<(e.Ins.length:Int)),cond_true,cond_true,QFp (by omega),QFq (by omega),Ql,Ql]
   by_cases hin:(i:Int)∈o.Ins
   ·rw [QI hin];rfl
   rw [QK hin,cond_false,cond_false,QFr hch hlt hin,QfO _ (by omega),Ql,Ql,QgA (by simp;omega),Ql,QAT _ (by simp;omega),Ql,QgA (Qik _),Ql]
   show(QeW n e.Ins _ env).bind _=_
   rw [Qsz h hr (h.k.2.2.1.2 e he).2.2.2.2.2.1 (hr.i e he) (by rw [Qik];simp;omega) hv]
   show _=(Qar n e.Ins _ env).bind _
   cases hx:Qar n e.Ins (QeD (o.Ins++[(i:Int)])) env with
   | none=>rfl
   | some x=>
    simp only [Ql]
    have:=QlC (QmO n e.Ins _ env h (h.k.2.2.1.2 e he).2.2.2.2.2.1 (by rw [Qik];simp;omega)) hx
    unfold QqT Qhk
    cases hz:(x.2==0)with
    | false=>rfl
    | true=>
     rw [cond_true,cond_true,QwX ((this (by simpa using hz)).1.len h (by rw [Qik];simp;omega)) hm]
     rfl
  rw [QK (by omega:¬(i:Int)<(e.Ins.length:Int))];rfl
 subst hI
 replace hs:Qam (QO.mk n m e env) o.Ins i=some (.inl s'):=hs
 unfold Qam at hs
 rcases Qp hs with⟨c,hs⟩|⟨_,hs⟩
 ·have hlt:i<e.Ins.length:=by
   have:(i:Int)<(e.Ins.length:Int):=Qak c
   omega
  refine⟨hlt,?_⟩
  have fin:∀s',Qcs (i:Int)=some (.inl s')->s'=((i+1:Nat):Int):=fun s' h=>by
   unfold Qcs at h
   rw [<-Qx (n:=e.Ins.length) hlt (by omega)];cases h;rfl
  obtain⟨_,_,hs⟩:=Qb hs
  rcases Qp hs with⟨_,hs⟩|⟨_,hs⟩
  ·exact fin s' hs
  obtain⟨_,_,hs⟩:=Qb hs
  obtain⟨_,_,hs⟩:=Qb hs
  obtain⟨_,_,hs⟩:=Qb hs
  obtain⟨_,_,hs⟩:=Qb hs
  obtain⟨_,_,hs⟩:=Qb hs
  obtain⟨_,_,hs⟩:=Qb hs
  unfold Qdt at hs
  rcases Qp hs with⟨_,hs⟩|⟨_,hs⟩
  ·cases hs
  exact fin s' hs
 cases hs
theorem QyP {n:Qq}(h:Qal n)(hr:RN n){m:List (List (Int×Int))}(hm:QJ (QJ fun _=>True) m){o:Qh}(ho:QaY n o):Qi7 n m o=Qck n m o:=by
 have hN:=QyM h hr ho
 have hG:=QyN h hr ho
 unfold Qdu at hN
 unfold Qi7 Qck Qa9
 obtain⟨⟨env,z⟩,e1,e2,e3⟩:=QxN h hr o.Task o.Vars
 rw [e1]at hN hG
 rw [e1,e2]
 simp only [Ql]at hN hG ⊢
 cases hz:(z != 0)with
 | true=>
  have hz2:(z==0)=false:=by simpa using hz
  rw [cond_true,cond_true,Ql]
  simp only [hz2,cond_false]
  unfold QbB
  rw [hz];rfl
 | false=>
  have hz0:z=0:=by simpa using hz
  obtain⟨hv,e,he,hmem⟩:=e3 hz0
  rw [hz,cond_false,he,Ql]at hN hG
  rw [cond_false,cond_false,he,Ql,Ql,Ql]
  simp only [show((0:Int)==0)=true from rfl,cond_true]
  obtain⟨x,x1,x2,_⟩:=QzQ (h.k.2.2.1.2 e hmem).2.2.1 (hr.g e hmem) hv
  unfold Q7
  simp only [x1,x2,Ql]
  cases hx:(x.2 != 0)with
  | true=>
   simp only [cond_true,Ql]
   unfold QbB
   rw [hx];rfl
  | false=>
   simp only [cond_false]
   cases hx0:(x.1==0)with
   | true=>rfl
   | false=>
    simp only [cond_false,Ql]
    unfold QbB QgZ Qef
    simp only [show((0:Int) != 0)=false from rfl,cond_false]
    rw [QyO,QyO,Qjj,Qjj,Ql,Ql,Ql]
    by_cases c1:o.Ins∈chC e.Join e.Ins.length
    ·by_cases c2:o.Outs∈chC e.Split e.Outs.length
     ·rw [QI c1,QI c2]
      simp only [Qfe,Bool.or_false,cond_false,Ql]
      rw [hN]
      unfold Q0 Qaj
      show _=(((Qar n e.Ins o.Ins env).bind _).bind _:Option Int)
      have kt:=QmO n e.Ins o.Ins env h (h.k.2.2.1.2 e hmem).2.2.2.2.2.1 (by have:=ho.2.1;omega)
      obtain⟨T,hT,hT2⟩:=kt
      rw [hT]
      simp only [Ql]
      cases ht:(T.2 != 0)with
      | true=>
       simp only [cond_true,Ql,ht]
      | false=>
       simp only [cond_false]
       rw [QwX ((hT2 (by simpa using ht)).1.len h (by have:=ho.2.1;omega)) hm]
       obtain⟨w,hw,_⟩:=QxL T.1 m ((hT2 (by simpa using ht)).1.len h (by have:=ho.2.1;omega)) hm
       rw [hw]
       simp only [Ql]
       cases w with
       | false=>rfl
       | true=>
        simp only [Qfe,cond_false]
        have fin:QeX n o=(Qar n e.Outs o.Outs env).bind fun x=>some x.2:=by
         unfold QeX
         rw [hG]
         cases Qar n e.Outs o.Outs env with
         | none=>rfl
         | some y=>rfl
        by_cases hj:e.Join=3
        ·rw [QCx h hr hm ho hmem hj hv c1]
         simp only [hj,show((3:Int) != 3)=false from rfl,cond_false]
         cases Qw (fun st=>Qam (QO.mk n m e env) o.Ins st) 0 with
         | none=>rfl
         | some q=>
          rcases q with q | q
          ·rfl
          show QeX n o=_
          rw [fin]
          cases Qar n e.Outs o.Outs env<;>rfl
        have hjb:(e.Join==3)=false:=by simpa using hj
        have hjn:(e.Join != 3)=true:=by simpa using hj
        simp only [hjn,cond_true,Ql,show((0:Int) != 0)=false from rfl,cond_false]
        have:Qw (fun st=>Qcj e o n (env,z) m st) 0=some (.inr ()):=by
         refine Qot.2 (.done ?_)
         show Qcj e o n (env,z) m 0=_
         unfold Qcj
         rw [hjb,Bool.and_false];rfl
        rw [this]
        show QeX n o=_
        rw [fin]
        cases Qar n e.Outs o.Outs env<;>rfl
     rw [QI c1,QK c2];rfl
    rw [QK c1];rfl
end Go.Proofs
noncomputable section
namespace Go.Proofs
open Go Go.RowKit Go.Vm
theorem QzS {α β:Type}{l:List α}(g:α->List β){most:Nat}{body:Int×List β->Option ((Int×List β)⊕(List β⊕List β))}(A:Nat)(hl:l.length<=maxLen)
  (hb:∀(i:Nat) acc x,acc.length<most->acc.length+(g x).length<=A->i<l.length->l[i]? = some x->body ((i:Int),acc)=some (match adv most acc (g x)with | .inl a=>.inr (.inl a) | .inr a=>.inl (w64 ((i:Int)+1),a)))
  (hf:∀acc,body ((l.length:Int),acc)=some (.inr (.inr acc))) {acc:List β} (ha:acc.length<most) (hA:acc.length+(l.flatMap g).length<=A):Qw body (0,acc)=some (adv most acc (l.flatMap g)):=by
 have key:∀(k i:Nat) acc,i+k=l.length->acc.length<most->acc.length+((l.drop i).flatMap g).length<=A->Qw body ((i:Int),acc)=some (adv most acc ((l.drop i).flatMap g)):=by
  intro k
  induction k with
  | zero=>
   intro i acc hk ha hA
   obtain rfl:i=l.length:=by omega
   rw [QaR,hf,List.drop_length]
   show _=some (adv most acc [])
   rw [QmT ha];rfl
  | succ k ih=>
   intro i acc hk ha hA
   have hi:i<l.length:=by omega
   rw [Qoc hi,Qjy,QcQ]at hA
   rw [QaR,hb i acc l[i] ha (by omega) hi (QH hi),Qoc hi,Qjy,Qwc]
   cases hx:adv most acc (g l[i])with
   | inl a=>rfl
   | inr a=>
    simp only
    show Qw body (w64 ((i:Int)+1),a)=_
    rw [Qx hi hl]
    refine ih (i+1) a (by omega) (Qyt hx) ?_
    have:=congrArg List.length (Qwd hx)
    rw [QcQ]at this
    omega
 have:=key l.length 0 acc (by omega) ha (by rw [List.drop_zero];exact hA)
 rwa [List.drop_zero]at this
def QA5 (n:Qq)(m:List (List (Int×Int)))(o:Qh):Bool:=decide (Qck n m o=some 0)
def Qt8 (n:Qq)(m:List (List (Int×Int)))(o:Qh):List Qh:=if QA5 n m o=true then [o]else []
theorem QA6 {α β:Type}(p:α->Bool)(f:α->β):∀l:List α,l.flatMap (fun x=>if p x=true then [f x]else [])=(l.filter p).map f
 | []=>rfl
 | x::l=>by
  rw [Qjy,QA6 p f l,Qmb]
  cases p x<;>rfl
theorem Qn9 {α β:Type}{g:α->List β}:∀{l:List α},(∀x∈l,g x=[])->l.flatMap g=[]
 | [],_=>rfl
 | x::l,h=>by rw [Qjy,h x QbE,Qn9 fun y hy=>h y (Qca _ hy)];rfl
theorem Qt9 {α β:Type}{f g:α->List β}:∀{l:List α},(∀x∈l,f x=g x)->l.flatMap f=l.flatMap g
 | [],_=>rfl
 | x::l,h=>by rw [Qjy,Qjy,h x QbE,Qt9 fun y hy=>h y (Qca _ hy)]
theorem QDr {n:Qq}(h:Qal n){m:List (List (Int×Int))}(hm:QJ (QJ fun _=>True) m){task:Int}{e:QG}(he:idx n.Tasks task=some e){p:List Int}(hp:p.length<=20):
  Qer n m task (chC e.Join e.Ins.length) (chC e.Split e.Outs.length) p=(chC e.Join e.Ins.length).flatMap fun i=>(chC e.Split e.Outs.length).flatMap fun k=>Qt8 n m (Qh.mk task p i k):=by
 have r1:=(Qtd e.Join e.Ins.length).2
 have r2:=(Qtd e.Split e.Outs.length).2
 have key:∀i∈chC e.Join e.Ins.length,∀k∈chC e.Split e.Outs.length,(QA5 n m (Qh.mk task p i k)=true↔∃b,Qa9 n m task p=some (0,b)/\Q7 b=some 0/\Q0 b i=some 0/\Qaj b k=some 0):=fun i hi k hk=>by
  unfold QA5
  rw [decide_eq_true_iff,QzN h hm ⟨hp,by have:=r1.2 i hi;show i.length<=20;omega,by have:=r2.2 k hk;show k.length<=20;omega⟩,QvS]
  constructor
  ·rintro ⟨_,e',he',_,_,_,b,hb⟩;exact⟨b,hb⟩
  rintro ⟨b,b1,b2⟩
  obtain⟨k1,_,_,_,k2,_⟩:=QpW h b1
  rw [he]at k1
  cases k1
  exact⟨rfl,_,he,k2.1,hi,hk,b,b1,b2⟩
 unfold Qer Qt8
 cases hb:Qa9 n m task p with
 | none=>
  symm
  refine Qn9 fun i hi=>Qn9 fun k hk=>if_neg fun c=>?_
  obtain⟨b,b1,_⟩:=(key i hi k hk).1 c
  rw [hb]at b1;cases b1
 | some x=>
  obtain⟨c,b⟩:=x
  simp only
  by_cases hc:c=0/\Q7 b=some 0
  ·rw [if_pos hc]
   refine Qt9 fun i hi=>?_
   by_cases ht:Q0 b i=some 0
   ·rw [if_pos ht,<-QA6]
    refine Qt9 fun k hk=>?_
    have e:gdB b k=QA5 n m (Qh.mk task p i k):=by
     apply Qth.2
     rw [key i hi k hk]
     unfold gdB
     rw [decide_eq_true_iff]
     constructor
     ·intro hg;exact⟨b,by rw [hb,hc.1],hc.2,ht,hg⟩
     rintro ⟨b',b1,_,_,b2⟩
     rw [hb]at b1;cases b1;exact b2
    rw [e]
   rw [if_neg ht]
   symm
   refine Qn9 fun k hk=>if_neg fun c=>?_
   obtain⟨b',b1,_,b2,_⟩:=(key i hi k hk).1 c
   rw [hb]at b1;cases b1;exact ht b2
  rw [if_neg hc]
  symm
  refine Qn9 fun i hi=>Qn9 fun k hk=>if_neg fun c=>?_
  obtain⟨b',b1,b2,_⟩:=(key i hi k hk).1 c
  rw [hb]at b1;cases b1;exact hc ⟨rfl,b2⟩
theorem QES {α:Type}{most:Nat}{acc:List α}{x:α}(h:acc.length<most):adv most acc [x]=if most<=acc.length+1 then .inl (acc++[x])else .inr (acc++[x]):=by
 unfold adv
 by_cases c:most<=acc.length+1
 ·rw [if_pos c,if_neg (by simp;omega),Qip (by simp;omega)]
 rw [if_neg c,if_pos (by simp;omega)]
theorem QDs {n:Qq}(h:Qal n)(hr:RN n){m:List (List (Int×Int))}(hm:QJ (QJ fun _=>True) m){task most:Int}{ins outs:List (List Int)}{p:List Int}(hi:Qeq ins)(ho:Qeq outs)(hp:p.length<=20){acc:List Qh}(ha:acc.length<most.toNat)
  (hs:most<=4294967296\/acc.length+(ins.flatMap fun i=>outs.flatMap fun k=>Qt8 n m (Qh.mk task p i k)).length<=4294967296):
  Qw (fun st=>QcY ins outs p n m task most st.1 st.2) (0,acc)=some (adv most.toNat acc (ins.flatMap fun i=>outs.flatMap fun k=>Qt8 n m (Qh.mk task p i k))):=by
 have mx:(1000:Nat)<=maxLen:=by decide
 have hi1:=hi.1
 have ho1:=ho.1
 obtain⟨A,hA,hA2⟩:∃A,acc.length+(ins.flatMap fun i=>outs.flatMap fun k=>Qt8 n m (Qh.mk task p i k)).length<=A/\(most<=4294967296\/A<=4294967296):=⟨_,QcR _,hs⟩
 refine QzS (l:=ins) (fun i=>outs.flatMap fun k=>Qt8 n m (Qh.mk task p i k)) (body:=fun st:Int×List Qh=>QcY ins outs p n m task most st.1 st.2) A (by omega) (fun i acc x h1 h2 hlt hx=>?_) (fun acc=>?_) ha hA
 ·show QcY ins outs p n m task most i acc=_
  have hxl:=hi.2 x (Qae hx)
  unfold QcY
  rw [QI (by omega:(i:Int)<(ins.length:Int)),cond_true]
  rw [QzS (l:=outs) (fun k=>Qt8 n m (Qh.mk task p x k)) (body:=fun st:Int×List Qh=>QdQ outs p ins i n m task most st.1 st.2) A (by omega) (fun k acc y g1 g2 glt gy=>by
   show QdQ outs p ins i n m task most k acc=_
   have hyl:=ho.2 y (Qae gy)
   have hck:∃c,Qck n m (Qh.mk task p x y)=some c:=(Qzv n m (Qh.mk task p x y) h hm ⟨hp,by show x.length<=20;omega,by show y.length<=20;omega⟩).tot
   obtain⟨c,hc⟩:=hck
   unfold QdQ QiU
   rw [QI (by omega:(k:Int)<(outs.length:Int)),cond_true,QgA (by simp;omega),Ql,Q1,hx,Ql,Q1,gy,Ql,Qoe,QyP h hr hm ⟨hp,by show x.length<=20;omega,by show y.length<=20;omega⟩,hc,Ql]
   unfold Qt8 QA5 at g2 ⊢
   rw [hc]at g2 ⊢
   by_cases hc0:c=0
   ·subst hc0
    rw [if_pos (by simp)]at g2 ⊢
    rw [QES g1]
    simp only [show((0:Int)==0)=true from rfl,cond_true]
    rw [Qjz]at g2
    rw [QgA (by rw [Qjz];omega),Ql,QcQ,Qjz]
    by_cases hcut:most.toNat<=acc.length+1
    ·rw [if_pos hcut,QI (by omega:most<=((acc.length+1:Nat):Int))];rfl
    rw [if_neg hcut,QK (by omega:¬most<=((acc.length+1:Nat):Int))];rfl
   ·have e1:(c==0)=false:=by simpa using hc0
    rw [if_neg (by simpa using hc0),QmT g1,e1];rfl) (fun acc=>by
   show QdQ outs p ins i n m task most outs.length acc=_
   unfold QdQ
   rw [QK (by omega)];rfl) h1 h2,Ql]
  cases adv most.toNat acc (outs.flatMap fun k=>Qt8 n m (Qh.mk task p x k))<;>rfl
 show QcY ins outs p n m task most ins.length acc=_
 unfold QcY
 rw [QK (by omega)];rfl
theorem QDt {n:Qq}(h:Qal n)(hr:RN n)(t:QG)(s:Int×List Int):Qw (fun st=>Qgg t n st.1 st.2) s=Qw (fun st=>Qav t n st.1 st.2) s:=by
 have e:(fun st:Int×List Int=>Qgg t n st.1 st.2)=fun st=>Qav t n st.1 st.2:=by
  funext st
  unfold Qgg Qav QqZ QfI
  simp only [QDp h.k.1 hr.c]
  rfl
 rw [e]
theorem QBu {n:Qq}(h:Qal n)(hr:RN n){m:List (List (Int×Int))}(hm:QJ (QJ fun _=>True) m){task most:Int}(hmost:most<=4294967296\/(Qdd n m task).length<=4294967296):Qfu n m task most=some ((Qdd n m task).take most.toNat):=by
 have key:Qj (Qfu n m task most) fun r=>r=(Qdd n m task).take most.toNat:=by
  unfold Qfu
  refine T1 (fun hc=>T2 ?_) fun hc=>?_
  ·simp only [Qcz,QN]at hc
   rcases hc with hc | hc | hc
   ·unfold Qdd idx
    rw [if_neg (by omega)];simp
   ·unfold Qdd idx
    rw [if_pos (by omega),List.getElem?_eq_none (by omega)];simp
   rw [show most.toNat=0 by omega,Qtm]
  simp only [QcP,Qah]at hc
  refine T0 (T4 (by omega) (by omega)).self fun e he=>?_
  have hv:=(h.tk e he.2).1
  refine T0 (T5 (by simp only [QA,QN];omega)) fun _ _=>?_
  obtain⟨c1,r1⟩:=Qtd e.Join e.Ins.length
  obtain⟨c2,r2⟩:=Qtd e.Split e.Outs.length
  rw [Qrc,c1,Ql,Qrc,c2,Ql]
  have hsz:(szB n e).length=e.Vars.length:=by simp [szB]
  have hml:Qdd n m task=(binds (szB n e)).flatMap (Qer n m task (chC e.Join e.Ins.length) (chC e.Split e.Outs.length)):=by
   unfold Qdd;rw [he.1]
  have hrd:∀p:List Int,p.length<=20->Qer n m task (chC e.Join e.Ins.length) (chC e.Split e.Outs.length) p=_:=fun p hp=>QDr h hm he.1 hp
  rw [hml]at hmost ⊢
  generalize hrl:Qer n m task (chC e.Join e.Ins.length) (chC e.Split e.Outs.length)=rl at hmost hrd ⊢
  refine T0 (QvR (fun st:Bool×List Int×List Qh=>bif st.1 then(Qbl (szB n e) st.2.1).length+1 else 0)
   (fun st=>(st.1=true->st.2.1.length=e.Vars.length/\(∀d∈st.2.1,0<=d/\d<=1024)/\(st.2.2.length:Int)<most/\adv most.toNat st.2.2 ((st.2.1::Qbl (szB n e) st.2.1).flatMap rl)=adv most.toNat [] ((binds (szB n e)).flatMap rl)/\st.2.2.length+((st.2.1::Qbl (szB n e) st.2.1).flatMap rl).length=((binds (szB n e)).flatMap rl).length)/\
    (st.1=false->Sum.inr st.2.2=adv most.toNat [] ((binds (szB n e)).flatMap rl)))
   (Q:=fun q:List Qh⊕List Qh=>q=adv most.toNat [] ((binds (szB n e)).flatMap rl)) ⟨fun _=>⟨by simp,fun d hd=>by have:=Qma hd;omega,by simp;omega,?_⟩,fun h=>(by cases h)⟩ (fun st hJ=>?_)) (fun q hq=>?_)
  ·show adv most.toNat [] ((List.replicate (e.Vars.length:Int).toNat 0::Qbl (szB n e) (List.replicate (e.Vars.length:Int).toNat 0)).flatMap rl)=_/\0+((List.replicate (e.Vars.length:Int).toNat 0::Qbl (szB n e) (List.replicate (e.Vars.length:Int).toNat 0)).flatMap rl).length=_
   rw [Qsv (szB n e),Qi8,hsz,Qff,QkW]
   exact⟨rfl,rfl⟩
  ·obtain⟨mo,d,l⟩:=st
   obtain⟨hT,hF⟩:=hJ
   show Qj (QhN (chC e.Join e.Ins.length) (chC e.Split e.Outs.length) n m task most e mo d l) _
   unfold QhN
   cases mo with
   | false=>exact T2 ⟨fun s' e=>(by cases e),fun q eq=>(by cases eq;exact hF rfl)⟩
   | true=>
    obtain⟨j1,j2,j3,j4,j5⟩:d.length=e.Vars.length/\(∀d'∈d,0<=d'/\d'<=1024)/\(l.length:Int)<most/\adv most.toNat l ((d::Qbl (szB n e) d).flatMap rl)=adv most.toNat [] ((binds (szB n e)).flatMap rl)/\l.length+((d::Qbl (szB n e) d).flatMap rl).length=((binds (szB n e)).flatMap rl).length:=hT rfl
    rw [Qjy,QcQ]at j5
    rw [cond_true,QDs h hr hm r1 r2 (by omega) (by omega) (by rw [<-hrd d (by omega)];omega),<-hrd d (by omega),Ql]
    rw [Qjy,Qwc]at j4
    cases hrr:adv most.toNat l (rl d)with
    | inl r=>
     rw [hrr]at j4
     exact T2 ⟨fun s' e=>(by cases e),fun q eq=>(by cases eq;exact j4)⟩
    | inr r=>
     rw [hrr]at j4
     have hacc:=Qyt hrr
     have hlen:=congrArg List.length (Qwd hrr)
     rw [QcQ]at hlen
     replace j4:adv most.toNat r ((Qbl (szB n e) d).flatMap rl)=adv most.toNat [] ((binds (szB n e)).flatMap rl):=j4
     show Qj (QhM e n d r) _
     unfold QhM
     rw [QDt h hr]
     refine T0 (QzM e n d h.k j1 hv j2) fun q hq=>?_
     obtain⟨a,d2⟩:=q
     obtain⟨⟨q1,q2,q3⟩,q4,q5⟩:(-1<=a/\a<d.length/\d2=d.take (a+1).toNat++List.replicate (d.length-(a+1).toNat) 0)/\(∀(j:Nat) x s,a<(j:Int)->d[j]? = some x->(szB n e)[j]? = some s->¬x+1<s)/\∀x s,0<=a->d[a.toNat]? = some x->(szB n e)[a.toNat]? = some s->x+1<s/\x<1024:=hq
     have hnx:=Qys (szB n e) d
     show Qj (QhL r a d2) _
     unfold QhL
     by_cases ha:0<=a
     ·have hlt:a.toNat<d.length:=by omega
      have hls:a.toNat<(szB n e).length:=by omega
      have ed:idx d2 a=some d[a.toNat]:=by
       rw [QeY (by omega),q3,Qbw (by simp;omega),QbU,if_pos (by omega),QH hlt]
      rw [QI ha,cond_true,ed,Ql,Ql]
      have h9:=q5 _ _ (by omega) (QH hlt) (QH hls)
      have h10:=j2 _ (QaI hlt)
      rw [Q4 (by omega)]
      have e3:d2.set a.toNat (d[a.toNat]+1)=d.take a.toNat++(d[a.toNat]+1)::List.replicate (d.length-(a.toNat+1)) 0:=by
       rw [q3,show(a+1).toNat=a.toNat+1 by omega,Qra hlt]
      rw [e3]
      have hd3:∀x∈d.take a.toNat++(d[a.toNat]+1)::List.replicate (d.length-(a.toNat+1)) 0,0<=x/\x<=1024:=fun x hx=>by
       rcases Qcm.1 hx with hx | hx
       ·exact j2 x (QfC hx)
       rcases Qbm.1 hx with rfl | hx
       ·omega
       have:=Qma hx;omega
      have hlen2:(d.take a.toNat++(d[a.toNat]+1)::List.replicate (d.length-(a.toNat+1)) 0).length=e.Vars.length:=by simp;omega
      rw [QBx a.toNat (szB n e) d _ _ (by omega) (QH hlt) (QH hls) h9.1 fun j y z hj=>q4 j y z (by omega)]at hnx
      simp only at hnx
      rw [hnx]at j4
      exact T2 ⟨fun s' e'=>(by
       cases e'
       refine⟨?_,fun _=>⟨hlen2,hd3,by show(r.length:Int)<most;omega,j4,by show r.length+(List.flatMap rl (_::_)).length=_;rw [<-hnx];omega⟩,fun h=>(by cases h)⟩
       show(Qbl (szB n e) (d.take a.toNat++(d[a.toNat]+1)::List.replicate (d.length-(a.toNat+1)) 0)).length+1<(Qbl (szB n e) d).length+1
       rw [hnx,Qfg];omega),fun q e'=>(by cases e')⟩
     rw [QK ha,cond_false]
     refine T2 ⟨fun s' e'=>(by
      cases e'
      refine⟨?_,(fun h=>by cases h),fun _=>?_⟩
      ·show 0<(Qbl (szB n e) d).length+1
       omega
      rw [QvA (szB n e) d fun j x s=>q4 j x s (by omega)]at hnx
      simp only at hnx
      rw [hnx,List.flatMap_nil,QmT hacc]at j4
      exact j4),fun q e'=>(by cases e')⟩
  rw [<-QAN (by omega:0<most.toNat),<-hq]
  rcases q with q | q<;>exact T2 rfl
 obtain⟨r,h1,h2⟩:=key
 rw [h1,h2]
theorem QCy {n:Qq}(h:Qal n)(hr:RN n){m:List (List (Int×Int))}(hm:QJ (QJ fun _=>True) m){task most:Int}(hmost:most<=4294967296\/(Qdd n m task).length<=4294967296):Qfu n m task most=Qeh n m task most:=by
 rw [QBu h hr hm hmost,QyH n m task most h hm hmost]
end Go.Proofs
noncomputable section
namespace Go.Proofs
open Go Go.RowKit Go.Vm
theorem QDu {a b:List (Int×Int)}(h:a.length+b.length<=4294967290):Qic a b=QfH a b:=by
 unfold Qic Qr4 Qke
 have ha:a.length<=maxLen:=by unfold maxLen;omega
 have hb:b.length<=maxLen:=by unfold maxLen;omega
 rw [QkR ha,QkR hb,Ql,QwW hb ha]
 obtain⟨w,hw,hw2⟩:=QnG b a hb ha
 rw [hw]
 rcases Qo1 a b (by omega)with⟨h1,h2⟩|⟨h1,h2,⟨k,h3⟩,h4⟩|⟨h1,h2,h3,r,h4,h5,h6,h7⟩
 ·rw [h2,<-Qbf,<-Qbf]at *
  cases ra:rtF (-1) a with
  | false=>rfl
  | true=>
   cases rb:rtF (-1) b with
   | false=>rfl
   | true=>exact absurd ⟨ra,rb⟩ h1
 ·rw [Qbf.2 h1,Qbf.2 h2,h4]
  have:w=false:=by
   cases w with
   | false=>rfl
   | true=>have:=(hw2.1 rfl).2.2 k;omega
  rw [this];rfl
 rw [Qbf.2 h1,Qbf.2 h2,hw2.2 ⟨h2,h1,h3⟩,h4]
 simp only [Qfe,cond_false,Ql,Qoe,QkU,QkW]
 rw [QgA (by omega),Ql]
 obtain⟨q,hq,hp1,hp2⟩:=Qlw (body:=fun st:Int×List (Int×Int)=>Qeo b a st.1 st.2) b.length
  (fun i s=>s.1=(i:Int)/\Rt s.2/\(∀k,QB s.2 k=QB a k-QB (b.take i) k)/\s.2.length<=a.length+i)
  (fun q=>Rt q/\∀k,QB q k=QB a k-QB b k) (fun i s hi hI=>by
   obtain⟨x,out⟩:=s
   obtain⟨g1,g2,g3,g4⟩:=hI
   replace g1:x=(i:Int):=g1
   subst g1
   replace g2:Rt out:=g2
   replace g3:∀k,QB out k=QB a k-QB (b.take i) k:=g3
   replace g4:out.length<=a.length+i:=g4
   have hx:b[i]? = some b[i]:=QH hi
   have hbi:=h2.2 _ (QaI hi)
   left
   show ∃s',Qeo b a i out=_/\_
   unfold Qeo
   rw [QI (by omega),cond_true,Q1,hx]
   simp only [Ql]
   have hc:=h1.cnt b[i].1
   have hle:=h3 b[i].1
   rw [QgU h2.1.nd (QaI hi)]at hle
   rw [QvW ha h1,Ql,Q4 (by omega)]
   obtain⟨r',r1,r2,r3,r4⟩:=QA2 (b:=out) (by omega) g2 (m:=b[i].1) (n:=QB a b[i].1-b[i].2) (by omega) (by omega)
   rw [r1,Ql]
   refine⟨_,rfl,Qx hi hb,r2,fun k=>?_,by show r'.length<=_;omega⟩
   show QB r' k=_
   rw [r3,QA3 h2.1 hi,g3]
   by_cases ek:k=b[i].1
   ·subst ek;rw [if_pos rfl,if_pos rfl]
   ·rw [if_neg ek,if_neg ek]) (fun s hI=>by
   obtain⟨x,out⟩:=s
   obtain⟨g1,g2,g3,g4⟩:=hI
   replace g1:x=(b.length:Int):=g1
   subst g1
   rw [Qht]at g3
   refine⟨out,?_,g2,g3⟩
   show Qeo b a b.length out=_
   unfold Qeo
   rw [QK (by omega)];rfl) (0,a) ⟨rfl,h1,fun k=>by simp [QB,QX],by simp⟩
 rw [hq]
 have:q=r:=QC7 hp1 h5 fun k=>by rw [hp2,h6]
 subst this;rfl
theorem QA7 {a b:List (List (Int×Int))}{sum:Bool}{how:List (Int×Int)->List (Int×Int)->Option (List (Int×Int)×Int)}{body:Int×List (List (Int×Int))->Option ((Int×List (List (Int×Int)))⊕(Int⊕List (List (Int×Int))))}(N:Nat)(hN:N<=100000)(ha:N<=a.length)(hb:N<=b.length)(hab:N=a.length\/N=b.length)
  (hh:∀x∈a,∀y∈b,(bif sum then Qhn x y else Qic x y)=how x y) (ht:∀x∈a,∀y∈b,∃z,how x y=some z)
  (hbody:∀(i:Nat) l,body ((i:Int),l)=bif decide ((i:Int)<(N:Int))then(idx a i).bind fun x=>(idx b i).bind fun y=>(how x y).bind fun z=>(idx l i).bind fun _=>bif (z.2 != 0)then some (.inr (.inl z.2))else some (.inl (w64 ((i:Int)+1),l.set i z.1))else some (.inr (.inr l))):
  Qw (fun st:Int×List (List (Int×Int))=>Qep a b sum st.1 st.2) (0,[])=Qw body (0,List.replicate N []):=by
 have mx:(100000:Nat)<=maxLen:=by decide
 obtain⟨r,q,e1,e2,e3⟩:=Qrd (b1:=fun st:Int×List (List (Int×Int))=>Qep a b sum st.1 st.2) (b2:=body) N
  (fun i s t=>s.1=(i:Int)/\s.2.length=i/\t=((i:Int),s.2++List.replicate (N-i) [])) (fun r q=>r=q) (fun i s t hi hI=>by
   obtain⟨x,out⟩:=s
   obtain⟨h1,h2,rfl⟩:=hI
   replace h1:x=(i:Int):=h1
   subst h1
   replace h2:out.length=i:=h2
   show(i<N/\∃s' t',Qep a b sum i out=_/\body ((i:Int),out++List.replicate (N-i) [])=_/\_)\/∃r q,Qep a b sum i out=_/\body ((i:Int),out++List.replicate (N-i) [])=_/\_
   rw [hbody]
   unfold Qep Qkf
   by_cases hlt:i<N
   ·have i1:i<a.length:=by omega
    have i2:i<b.length:=by omega
    obtain⟨z,hz⟩:=ht _ (QaI i1) _ (QaI i2)
    have hh1:=hh _ (QaI i1) _ (QaI i2)
    rw [hz]at hh1
    have hrep:List.replicate (N-i) ([]:List (Int×Int))=[]::List.replicate (N-(i+1)) []:=by
     rw [show N-i=(N-(i+1))+1 by omega];rfl
    rw [QI (by omega:(i:Int)<(a.length:Int)),QI (by omega:(i:Int)<(b.length:Int)),QI (by omega:(i:Int)<(N:Int)),Bool.and_true,cond_true,cond_true,Q1,QH i1,Q1,QH i2,Q1,hrep,QcA (by omega),h2,Nat.sub_self]
    simp only [Ql,hz,List.getElem?_cons_zero]
    have one:(bif sum then(Qhn a[i] b[i]).bind fun x22=>bif (x22.2 != 0)then some (.inr (.inl x22.2))else(chk (decide (i+[x22.1].length<=4294967296))).bind fun _=>some (.inl (w64 ((i:Int)+1),out++[x22.1]))else(Qic a[i] b[i]).bind fun x27=>bif (x27.2 != 0)then some (.inr (.inl x27.2))else(chk (decide (i+[x27.1].length<=4294967296))).bind fun _=>some (.inl (w64 ((i:Int)+1),out++[x27.1])):Option ((Int×List (List (Int×Int)))⊕(Int⊕List (List (Int×Int)))))=bif (z.2 != 0)then some (.inr (.inl z.2))else(chk (decide (i+[z.1].length<=4294967296))).bind fun _=>some (.inl (w64 ((i:Int)+1),out++[z.1])):=by
     cases sum with
     | true=>simp only [cond_true]at hh1 ⊢;rw [hh1];rfl
     | false=>simp only [cond_false]at hh1 ⊢;rw [hh1];rfl
    rw [one]
    cases (z.2 != 0)with
    | true=>exact .inr ⟨_,_,rfl,rfl,rfl⟩
    | false=>
     left
     rw [cond_false,cond_false,QgA (by simp;omega)]
     refine⟨hlt,_,_,rfl,rfl,Qx hlt (by omega),by simp;omega,?_⟩
     rw [Qx hlt (by omega),List.set_append_right _ _ (by omega),h2,Nat.sub_self,Qgl];rfl
   right
   have hf:(decide ((i:Int)<(a.length:Int))&&decide ((i:Int)<(b.length:Int)))=false:=by
    rcases hab with e | e
    ·rw [QK (by omega:¬(i:Int)<(a.length:Int))];rfl
    rw [QK (by omega:¬(i:Int)<(b.length:Int)),Bool.and_false]
   rw [hf,QK (by omega:¬(i:Int)<(N:Int))]
   exact⟨_,_,rfl,rfl,by rw [show N-i=0 by omega];simp⟩) (0,[]) (0,List.replicate N []) ⟨rfl,rfl,rfl⟩
 rw [e1,e2,e3]
theorem Qua (a b:Nat):min2 (a:Int) (b:Int)=((min a b:Nat):Int):=by
 unfold min2;split<;>omega
theorem QEh {a b:List (List (Int×Int))}(hl:a.length<=100000)(h:∀x∈a,∀y∈b,x.length+y.length<=4294967290):Qgf a b true=QdK a b:=by
 unfold Qgf QdK
 rw [Qua,Qor (by simp;omega),Ql,Qff]
 rw [QA7 (sum:=true) (how:=Qe9) (body:=fun st:Int×List (List (Int×Int))=>QbS a b st.1 st.2) (min a.length b.length) (by omega) (by omega) (by omega) (by omega) (fun x hx y hy=>QA4 (h x hx y hy)) (fun x hx y hy=>by
  rcases QkP x y (by have:=h x hx y hy;omega)with⟨_,e⟩|⟨_,_,_,e⟩|⟨_,_,r,e,_⟩<;>exact⟨_,e⟩) (fun i l=>by
  show QbS a b i l=_
  unfold QbS
  rw [Qua,Qff,Qtk,Qff])]
 cases Qw (fun st:Int×List (List (Int×Int))=>QbS a b st.1 st.2) (0,List.replicate (min a.length b.length) [])with
 | none=>rfl
 | some q=>cases q<;>rfl
theorem QDv {a b:List (List (Int×Int))}(hl:a.length<=100000)(h:∀x∈a,∀y∈b,x.length+y.length<=4294967290):Qgf a b false=QgO a b:=by
 unfold Qgf QgO
 rw [Qua,Qor (by simp;omega),Ql,Qff]
 rw [QA7 (sum:=false) (how:=QfH) (body:=fun st:Int×List (List (Int×Int))=>QcT a b st.1 st.2) (min a.length b.length) (by omega) (by omega) (by omega) (by omega) (fun x hx y hy=>QDu (h x hx y hy)) (fun x hx y hy=>by
  rcases Qo1 x y (by have:=h x hx y hy;omega)with⟨_,e⟩|⟨_,_,_,e⟩|⟨_,_,_,r,e,_⟩<;>exact⟨_,e⟩) (fun i l=>by
  show QcT a b i l=_
  unfold QcT
  rw [Qua,Qff,Qtk,Qff])]
 cases Qw (fun st:Int×List (List (Int×Int))=>QcT a b st.1 st.2) (0,List.replicate (min a.length b.length) [])with
 | none=>rfl
 | some q=>cases q<;>rfl
theorem QCz {n:Qq}(h:Qal n){m:List (List (Int×Int))}(hm:QJ (QJ fun _=>True) m){o:Qh}(ho:QaY n o)(hc:Qck n m o=some 0):∃need,Qdu n o=some (need,0):=by
 obtain⟨_,e,he,_,_,_,b,b1,b2,b3,b4⟩:=QvS.1 ((QzN h hm ho).1 hc)
 obtain⟨k1,k2,k3,k4,k5,k6⟩:=QpW h b1
 unfold Qdu
 rw [k6,k1]
 unfold Q0 at b3
 rw [k3]at b3
 obtain⟨x,hx,b3⟩:=Qb b3
 rcases Qp b3 with⟨c,b3⟩|⟨c,_⟩
 ·rw [Option.some.inj b3]at c;cases c
 refine⟨x.1,?_⟩
 simp only [Ql,show((0:Int) != 0)=false from rfl,cond_false]
 rw [hx]
 have:x.2=0:=by simpa using c
 show some (x.1,x.2)=_
 rw [this]
theorem QDw {n:Qq}(h:Qal n)(hr:RN n){c:Nat}(hc:c<=900000){m:List (List (Int×Int))}(hm:MOk n c m){o:Qh}(ho:QaY n o):Qnz n m o=Qhl n m o:=by
 unfold Qnz Qhl
 have hml:=hm.len h (by omega)
 rw [QyP h hr hml ho]
 obtain⟨x,hx,_⟩:=Qzv n m o h hml ho
 rw [hx,Ql,Ql]
 cases hz:(x != 0)with
 | true=>rfl
 | false=>
  have:x=0:=by simpa using hz
  subst this
  obtain⟨need,hneed⟩:=QCz h hml ho hx
  have hn:=(QlC (QBz n o h ho) hneed rfl).1
  rw [cond_false,cond_false,QyM h hr ho,hneed,Ql,Ql]
  simp only [show((0:Int) != 0)=false from rfl,cond_false]
  rw [QDv (by have:=hm.1;have:=h.pl;omega) fun x hx y hy=>by
   have:=(hm.2 x hx).2
   have:=(hn.2 y hy).2
   omega]
theorem QEi {n:Qq}(h:Qal n)(hr:RN n){o:Qh}(ho:QaY n o):QgT n o=Qkz n o:=QyN h hr ho
theorem QBv (e:QG)(m:List (List (Int×Int))):Qw (fun st:Int×List (List (Int×Int))=>Qha e st.1 st.2) (0,m)=Qw (fun st:Int×List (List (Int×Int))=>Qbv e st.1 st.2) (0,m):=by
 have hb:(fun st:Int×List (List (Int×Int))=>Qha e st.1 st.2)=fun st=>Qbv e st.1 st.2:=by
  funext st
  unfold Qha Qbv Qr9 Qkg
  cases decide (st.1<(e.Cancel.length:Int))with
  | false=>rfl
  | true=>
   rw [cond_true,cond_true]
   cases idx e.Cancel st.1 with
   | none=>rfl
   | some k=>
    simp only [Ql]
    cases decide (0<=k)with
    | false=>rfl
    | true=>
     cases decide (k<(st.2.length:Int))with
     | false=>rfl
     | true=>rfl
 rw [hb]
theorem QCA {e:QG}{m q:List (List (Int×Int))}{c:Nat}(hc:e.Cancel.length<=16)(hm:∀b∈m,b.length<=c)(h:Qw (fun st:Int×List (List (Int×Int))=>Qbv e st.1 st.2) (0,m)=some q):q.length=m.length/\∀b∈q,b.length<=c:=by
 have key:Qj (Qw (fun st:Int×List (List (Int×Int))=>Qbv e st.1 st.2) (0,m)) fun q=>q.length=m.length/\∀b∈q,b.length<=c:=by
  refine Qj.up e.Cancel.length (fun st=>st.1) (fun st=>st.2.length=m.length/\∀b∈st.2,b.length<=c) rfl ⟨rfl,hm⟩ (fun i st hi hn hJ=>?_)
  obtain⟨x,l⟩:=st
  replace hi:x=(i:Int):=hi
  subst hi
  obtain⟨j1,j2⟩:l.length=m.length/\∀b∈l,b.length<=c:=hJ
  show Qj (Qbv e i l) _
  unfold Qbv QfU
  refine T1 (fun hc2=>?_) fun _=>T2 (Qt ⟨j1,j2⟩)
  simp only [QN]at hc2
  have hw:w64 ((i:Int)+1)=((i+1:Nat):Int):=Qx (show i<e.Cancel.length by omega) (by unfold maxLen;omega)
  refine T0 (T4 (by omega) hc2) fun k _=>?_
  refine T1 (fun hk=>?_) fun _=>T2 (QL ⟨by omega,hw,j1,j2⟩)
  simp only [QA,QN]at hk
  refine T0 (T4 hk.1 hk.2) fun _ _=>T2 (QL ⟨by omega,hw,by simpa using j1,fun b hb=>?_⟩)
  rcases Qn7 hb with rfl | hb
  ·simp
  exact j2 b hb
 exact QlC key h
theorem QDx {n:Qq}(h:Qal n)(hr:RN n){c:Nat}(hc:c<=900000){m:List (List (Int×Int))}(hm:MOk n c m){o:Qh}(ho:QaY n o):QnC n m o=Qjf n m o:=by
 unfold QnC Qjf
 rw [QEi h hr ho]
 obtain⟨x,hx,hx2⟩:=QBA n o h ho
 rw [hx,Ql,Ql]
 cases hz:(x.2 != 0)with
 | true=>rfl
 | false=>
  obtain⟨⟨g1,_⟩,g2,g3⟩:=hx2 (by simpa using hz)
  have hpl:=h.pl
  have hml:=hm.1
  have hmem:(n.Tasks[o.Task.toNat]'(by omega))∈n.Tasks:=QaI _
  rw [cond_false,cond_false,QgA (by simp;omega),Ql,Qrb m (by omega) fun b hb=>by have:=(hm.2 b hb).2;omega,Ql,Ql7 g2 g3,Ql,Ql,Qoe,QBv]
  cases hq:Qw (fun st:Int×List (List (Int×Int))=>Qbv (n.Tasks[o.Task.toNat]'(by omega)) st.1 st.2) (0,m)with
  | none=>rfl
  | some q=>
   obtain⟨q1,q2⟩:=QCA (h.tk _ hmem).2.2.2 (fun b hb=>(hm.2 b hb).2) hq
   rw [Ql,Ql]
   unfold QnB Qh2
   rw [QEh (by omega) fun a ha b hb=>by
    have:=q2 a ha
    have:=(g1.2 b hb).2
    omega]
theorem QBF {n:Qq}(h:Qal n)(hr:RN n){c:Nat}(hc:c<=800000){m:List (List (Int×Int))}(hm:MOk n c m){o:Qh}(ho:QaY n o):QnD n m o=QdX n m o:=by
 unfold QnD QdX
 rw [QDw h hr (by omega) hm ho]
 obtain⟨x,hx,hx2⟩:=QDg n m o c h hm (by omega) ho
 rw [hx,Ql,Ql]
 cases hz:(x.2 != 0)with
 | true=>rfl
 | false=>rw [cond_false,cond_false,QDx h hr (c:=c+20) (by omega) (hx2 (by simpa using hz)) ho]
end Go.Proofs
noncomputable section
namespace Go.Proofs
open Go Go.RowKit Go.Vm
theorem QEj {n:Qq}(h:Qal n)(hr:RN n){m:List (List (Int×Int))}(hm:QJ (QJ fun _=>True) m){most:Int}(hi:InI most)(hb:most<=4294967296\/∀k:Nat,(Qdd n m (k:Int)).length<=4294967296):Qoq n m most=Qk9 n m most:=by
 unfold Qoq Qk9
 have mx:(12:Nat)<=maxLen:=by decide
 have htl:=h.tl
 unfold InI at hi
 have e:Qw (fun st:Int×List Qh=>Qid n m most st.1 st.2) (0,[])=Qw (fun st:Int×List Qh=>QdD n m most st.1 st.2) (0,[]):=by
  have hms:∀(i:Nat) (l:List Qh),(l.length:Int)<=max most 0->w64 (most-(l.length:Int))<=4294967296\/(Qdd n m (i:Int)).length<=4294967296:=fun i l hl=>by
   rcases hb with hb | hb
   ·left
    by_cases h0:0<=most
    ·rw [Q4 (by omega)];omega
    rw [Q4 (by omega)];omega
   exact .inr (hb i)
  refine Qsd n.Tasks.length (fun i s=>s.1=(i:Int)/\(s.2.length:Int)<=max most 0) (fun i s hI=>?_) (fun i s s' hI hs=>?_) _ ⟨rfl,by simp;omega⟩
  ·obtain⟨x,l⟩:=s
   obtain⟨h1,h2⟩:=hI
   replace h1:x=(i:Int):=h1
   subst h1
   replace h2:(l.length:Int)<=max most 0:=h2
   show Qid n m most i l=QdD n m most i l
   unfold Qid QdD
   rw [QCy h hr hm (hms i l h2)]
  obtain⟨x,l⟩:=s
  obtain⟨h1,h2⟩:=hI
  replace h1:x=(i:Int):=h1
  subst h1
  replace h2:(l.length:Int)<=max most 0:=h2
  replace hs:QdD n m most i l=some (.inl s'):=hs
  unfold QdD at hs
  rcases Qp hs with⟨c,hs⟩|⟨_,hs⟩
  ·have hlt:i<n.Tasks.length:=by simpa using c
   rw [QyH n m i _ h hm (hms i l h2),Ql]at hs
   obtain⟨_,_,hs⟩:=Qb hs
   cases hs
   refine⟨hlt,Qx hlt (by omega),?_⟩
   show((l++(Qdd n m (i:Int)).take (w64 (most-(l.length:Int))).toNat).length:Int)<=_
   have:=List.length_take_le (w64 (most-(l.length:Int))).toNat (Qdd n m (i:Int))
   rw [QcQ]
   by_cases h0:0<=most
   ·rw [Q4 (by omega)]at this ⊢;omega
   rw [Q4 (by omega)]at this ⊢;omega
  cases hs
 rw [e];rfl
theorem QEk {n:Qq}(h:Qal n)(hr:RN n){c:Nat}{m:List (List (Int×Int))}(hm:MOk n c m){l:List Qh}(hl:∀o∈l,QaY n o)(hc:c+40*l.length<=700000):∃r,Qnn n m l=some r/\Qop n m l=some r/\MOk n (c+40*l.length) r.1:=by
 have mx:(700000:Nat)<=maxLen:=by decide
 have hpl:=h.pl
 have hml:=hm.1
 unfold Qnn Qop
 rw [Qrb m (by omega) fun b hb=>by have:=(hm.2 b hb).2;omega,Ql]
 obtain⟨r,q,e1,e2,e3,e4⟩:=Qrd (b1:=fun st:List (List (Int×Int))×Int=>QgP l n st.1 st.2) (b2:=fun st:List (List (Int×Int))×Int=>QfX l n st.1 st.2) l.length
  (fun i s t=>s=t/\s.2=(i:Int)/\MOk n (c+40*i) s.1) (fun r q=>r=q/\∀x,(r=.inr x\/∃k,r=.inl (x,k))->MOk n (c+40*l.length) x) (fun i s t hi hI=>by
   obtain⟨x,k⟩:=s
   obtain⟨rfl,h2,h3⟩:=hI
   replace h2:k=(i:Int):=h2
   subst h2
   replace h3:MOk n (c+40*i) x:=h3
   show(i<l.length/\∃s' t',QgP l n x i=_/\QfX l n x i=_/\_)\/∃r q,QgP l n x i=_/\QfX l n x i=_/\_
   unfold QgP QfX
   by_cases hlt:i<l.length
   ·rw [QI (by omega:(i:Int)<(l.length:Int)),cond_true,cond_true,Q1,QH hlt,Ql,Ql]
    have ho:=hl _ (QaI hlt)
    rw [QBF h hr (c:=c+40*i) (by omega) h3 ho]
    obtain⟨y,hy,hy2⟩:=QCm n x l[i] (c+40*i) h h3 (by omega) ho
    rw [hy,Ql]
    cases hz:(y.2 != 0)with
    | true=>
     refine .inr ⟨_,_,rfl,rfl,rfl,fun z hz=>?_⟩
     rcases hz with hz | ⟨k,hz⟩
     ·cases hz
     cases hz;exact h3.mono (by omega)
    | false=>
     refine .inl ⟨hlt,_,_,rfl,rfl,rfl,Qx hlt (by omega),?_⟩
     have:=hy2 (by simpa using hz)
     exact this.mono (by omega)
   rw [QK (by omega:¬(i:Int)<(l.length:Int))]
   refine .inr ⟨_,_,rfl,rfl,rfl,fun z hz=>?_⟩
   rcases hz with hz | ⟨k,hz⟩
   ·cases hz;exact h3.mono (by omega)
   cases hz) (m,0) (m,0) ⟨rfl,rfl,hm⟩
 subst e3
 rw [e1,e2]
 rcases r with⟨x,k⟩|x
 ·exact⟨(x,k),rfl,rfl,e4 x (.inr ⟨k,rfl⟩)⟩
 exact⟨(x,(l.length:Int)),rfl,rfl,e4 x (.inl rfl)⟩
theorem QDy {p L:Int}(hL:0<L/\L<=4294967296):Int.tmod (w64 (Int.tmod p L+L)) L=bif decide (Int.tmod p L<0)then w64 (Int.tmod p L+L)else Int.tmod p L:=by
 have h1:(Int.tmod p L).natAbs<L.natAbs:=by rw [Int.natAbs_tmod];exact Nat.mod_lt _ (by omega)
 generalize Int.tmod p L=t at h1
 rw [Q4 (by omega)]
 by_cases h0:t<0
 ·rw [QI h0,cond_true,Int.tmod_eq_of_lt (by omega) (by omega)]
 rw [QK h0,cond_false,Int.tmod_eq_emod_of_nonneg (by omega),Int.add_emod_right,Int.emod_eq_of_lt (by omega) (by omega)]
theorem QCB {n:Qq}(h:Qal n)(hr:RN n){m:List (List (Int×Int))}(hm:MOk n 1024 m){picks:List Int}(hp:picks.length<=8):Qms n m picks=Qgb n m picks:=by
 have mx:(700000:Nat)<=maxLen:=by decide
 unfold Qms Qgb
 have e:Qw (fun st:List (List (Int×Int))×Int×List Qh=>Qgi picks n st.1 st.2.1 st.2.2) (m,0,[])=Qw (fun st:List (List (Int×Int))×Int×List Qh=>QcH picks n st.1 st.2.1 st.2.2) (m,0,[]):=by
  refine Qsd picks.length (fun i s=>s.2.1=(i:Int)/\i<=8/\MOk n (1024+40*i) s.1) (fun i s hI=>?_) (fun i s s' hI hs=>?_) _ ⟨rfl,by omega,hm⟩
  ·obtain⟨x,k,out⟩:=s
   obtain⟨h1,h2,h3⟩:=hI
   replace h1:k=(i:Int):=h1
   subst h1
   replace h3:MOk n (1024+40*i) x:=h3
   show Qgi picks n x i out=QcH picks n x i out
   unfold Qgi QcH
   cases hlt:decide ((i:Int)<(picks.length:Int))with
   | false=>rfl
   | true=>
    have hlt:i<picks.length:=by simpa using hlt
    rw [cond_true,cond_true,Q1,QH hlt,Ql]
    have hml:=h3.len h (by omega)
    rw [QEj h hr hml (by unfold InI;omega) (.inl (by omega))]
    obtain⟨L,hL,hL1,hL2⟩:=QCl n x 4096 h hml (by omega) (by omega)
    rw [hL]
    simp only [Ql]
    by_cases h0:(L.length:Int)=0
    ·rw [show((L.length:Int)==0)=true by simpa using h0];rfl
    rw [show((L.length:Int)==0)=false by simpa using h0,show((L.length:Int) != 0)=true by simpa using h0]
    simp only [cond_false]
    simp only [show chk true=some ()from rfl,Ql]
    rw [QDy (by omega)]
    have key:∀k:Int,Qgh L n x out i k=(idx L k).bind fun e22=>(QdX n x e22).bind fun x23=>bif (x23.2 != 0)then some (.inr (.inl out))else(chk (decide (out.length+([e22]:List Qh).length<=4294967296))).bind fun _=>some (.inl (x23.1,(w64 ((i:Int)+1)),(out++([e22]:List Qh)))):=fun k=>by
     unfold Qgh
     cases hk:idx L k with
     | none=>rfl
     | some o=>
      simp only [Ql]
      rw [QBF h hr (c:=1024+40*i) (by omega) h3 (hL2 o (Qae (Qby hk).2))]
    rw [key,key]
    cases decide (Int.tmod picks[i] (L.length:Int)<0)<;>rfl
  obtain⟨x,k,out⟩:=s
  obtain⟨h1,h2,h3⟩:=hI
  replace h1:k=(i:Int):=h1
  subst h1
  replace h3:MOk n (1024+40*i) x:=h3
  replace hs:QcH picks n x i out=some (.inl s'):=hs
  unfold QcH at hs
  rcases Qp hs with⟨c,hs⟩|⟨_,hs⟩
  ·have hlt:i<picks.length:=by simpa using c
   obtain⟨_,_,hs⟩:=Qb hs
   obtain⟨L,hL,hs⟩:=Qb hs
   rcases Qp hs with⟨_,hs⟩|⟨_,hs⟩
   ·cases hs
   obtain⟨_,_,hs⟩:=Qb hs
   obtain⟨_,_,hs⟩:=Qb hs
   obtain⟨o,ho,hs⟩:=Qb hs
   obtain⟨y,hy,hs⟩:=Qb hs
   rcases Qp hs with⟨_,hs⟩|⟨hz,hs⟩
   ·cases hs
   obtain⟨_,_,hs⟩:=Qb hs
   cases hs
   have hL2:=(QlC (QCl n x 4096 h (h3.len h (by omega)) (by omega) (by omega)) hL).2
   have:=QlC (QCm n x o (1024+40*i) h h3 (by omega) (hL2 o (Qae (Qby ho).2))) hy (by simpa using hz)
   exact⟨hlt,Qx hlt (by omega),by omega,this.mono (by omega)⟩
  cases hs
 rw [e];rfl
theorem QvX {α:Type}(l:List α):QnE (fun _ _=>false) 0 l=false:=Qt0.2 fun _ _ _=>rfl
theorem QDz (b:List (Int×Int))(h:b.length<=maxLen):Qns b b=some true:=by
 unfold Qns
 rw [show((b.length:Int) != (b.length:Int))=false by simp,cond_false,Qn5 (body:=fun st=>Qei b b st) (l:=b) (fun i=>(i:Int)) (fun _ _=>false) (.inl ()) (.inr ()) (fun i x hi hx=>by
  show Qei b b i=_
  unfold Qei
  rw [QI (by omega),cond_true,Q1,hx,Ql,Ql,Qx hi h]
  simp) (by
  show Qei b b b.length=_
  unfold Qei
  rw [QK (by omega),cond_false]) (s0:=0) rfl,QvX]
 rfl
theorem QAb {m:List (List (Int×Int))}(h:QJ (QJ fun _=>True) m):Qgc m m=some true:=by
 unfold Qgc
 rw [show((m.length:Int) != (m.length:Int))=false by simp,cond_false,Qn5 (body:=fun st=>Qcy m m st) (l:=m) (fun i=>(i:Int)) (fun _ _=>false) (.inl ()) (.inr ()) (fun i x hi hx=>by
  show Qcy m m i=_
  unfold Qcy
  rw [QI (by omega),cond_true,Q1,hx,Ql,Ql,QDz x (h.2 x (Qae hx)).1,Ql,Qx hi h.1]
  rfl) (by
  show Qcy m m m.length=_
  unfold Qcy
  rw [QK (by omega),cond_false]) (s0:=0) rfl,QvX]
 rfl
theorem QCC {n:Qq}{l:List Qh}(hl:l.length<=maxLen)(h:∀o∈l,QaY n o):Qmt l l=some true:=by
 have mx:(20:Nat)<=maxLen:=by decide
 unfold Qmt
 rw [show((l.length:Int) != (l.length:Int))=false by simp,cond_false,Qn5 (body:=fun st=>QdR l l st) (l:=l) (fun i=>(i:Int)) (fun _ _=>false) (.inl ()) (.inr ()) (fun i x hi hx=>by
  show QdR l l i=_
  unfold QdR Qq2 Qsa Qkh
  obtain⟨h1,h2,h3⟩:=h x (Qae hx)
  rw [QI (by omega),cond_true,Q1,hx,Ql,Ql,show(x.Task==x.Task)=true by simp,Qwe _ _ (by omega),Qwe _ _ (by omega),Qwe _ _ (by omega),Qx hi hl]
  simp) (by
  show QdR l l l.length=_
  unfold QdR
  rw [QK (by omega),cond_false]) (s0:=0) rfl,QvX]
 rfl
end Go.Proofs
noncomputable section
namespace Go.Proofs
open Go Go.RowKit Go.Vm
theorem QCD {l:List Qh}(hl:l.length<=12):∃r,Qw (fun st=>Qbi l st) 0=some r/\(r=.inr ()->∀o∈l,o.Vars.length<=20/\o.Ins.length<=20/\o.Outs.length<=20):=by
 have mx:(12:Nat)<=maxLen:=by decide
 refine Qlw (body:=fun st:Int=>Qbi l st) l.length (fun i s=>s=(i:Int)/\∀o∈l.take i,o.Vars.length<=20/\o.Ins.length<=20/\o.Outs.length<=20) (fun r=>r=.inr ()->∀o∈l,o.Vars.length<=20/\o.Ins.length<=20/\o.Outs.length<=20) (fun i s hi hI=>?_) (fun s hI=>?_) 0 ⟨rfl,fun o ho=>by cases ho⟩
 ·obtain⟨rfl,hI⟩:=hI
  have hx:l[i]? = some l[i]:=QH hi
  show(∃s',Qbi l i=_/\_)\/∃r,Qbi l i=_/\_
  unfold Qbi QnR Qgy
  rw [QI (by omega),cond_true,Q1,hx]
  simp only [Ql]
  by_cases c1:20<l[i].Vars.length
  ·rw [QI (by omega:(20:Int)<(l[i].Vars.length:Int))]
   exact .inr ⟨_,rfl,fun h=>by cases h⟩
  rw [QK (by omega:¬(20:Int)<(l[i].Vars.length:Int)),cond_false]
  by_cases c2:20<l[i].Ins.length
  ·rw [QI (by omega:(20:Int)<(l[i].Ins.length:Int))]
   exact .inr ⟨_,rfl,fun h=>by cases h⟩
  rw [QK (by omega:¬(20:Int)<(l[i].Ins.length:Int)),cond_false]
  by_cases c3:20<l[i].Outs.length
  ·rw [QI (by omega:(20:Int)<(l[i].Outs.length:Int))]
   exact .inr ⟨_,rfl,fun h=>by cases h⟩
  rw [QK (by omega:¬(20:Int)<(l[i].Outs.length:Int))]
  refine .inl ⟨_,rfl,Qx hi (by omega),fun o ho=>?_⟩
  rw [QfP hi]at ho
  rcases Qcm.1 ho with ho | ho
  ·exact hI o ho
  simp at ho;subst ho;omega
 obtain⟨rfl,hI⟩:=hI
 rw [Qht]at hI
 refine⟨.inr (),?_,fun _=>hI⟩
 show Qbi l l.length=_
 unfold Qbi
 rw [QK (by omega)];rfl
theorem QDA {n:Qq}{m:List (List (Int×Int))}{l:List Qh}{picks:List Int}(hn:QY n)(hr:RN n)(hm0:QJ (QJ fun _=>True) m):Qgj n m l picks=some true:=by
 unfold Qgj
 rw [QCo,Ql]
 obtain⟨x8,h8,hfine⟩:=QFi n m hn hm0
 rw [h8,Ql]
 cases hcc:((!x8)||((decide (12<(l.length:Int)))||(decide (8<(picks.length:Int)))))with
 | true=>rfl
 | false=>
  simp only [QcP,Qio,Qah]at hcc
  obtain⟨c1,c2,c3⟩:=hcc
  obtain⟨hN,hm,_⟩:=hfine c1
  have mx:(700000:Nat)<=maxLen:=by decide
  obtain⟨r,r1,r2⟩:=QCD (l:=l) (by omega)
  rw [cond_false,r1,Ql]
  rcases r with r | r
  ·rfl
  obtain⟨x,x1,x2,x3⟩:=QEk hN hr hm (l:=l) (r2 rfl) (by omega)
  show Qgz n m l true picks=_
  unfold Qgz QnT
  obtain⟨s,s1,s2,s3,_⟩:=QEM n m picks hN hm (by omega)
  rw [x1,x2,Ql,Ql,cond_true,show(x.2==x.2)=true by simp,cond_true,QAb (x3.len hN (by omega)),Ql,cond_true,QCB hN hr hm (by omega),s1,Ql,Ql,QCC (by omega) s3]
  rfl
end Go.Proofs
