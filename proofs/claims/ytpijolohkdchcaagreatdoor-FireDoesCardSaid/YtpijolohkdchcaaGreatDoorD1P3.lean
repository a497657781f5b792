/- A part of the proof; what it holds is told at each theorem. -/
import Derived.Test.YtpijolohkdchcaaGreatDoorD1P2
import Derived.Test.YtpijolohkdchcaaGreatDoorD1P2
import Derived.Test.YtpijolohkdchcaaGreatDoorD1P2
set_option linter.unusedVariables false
set_option linter.unusedSimpArgs false
set_option linter.unusedSectionVars false
set_option linter.deprecated false
noncomputable section
namespace Go.Proofs
open Go Go.RowKit Go.Vm
theorem QyL {α:Type}(l:List α):Qm2 (fun _ _=>false) 0 l=false:=Qs5.2 fun _ _ _=>rfl
theorem QCp (b:List (Int×Int))(h:b.length<=maxLen):QmR b b=some true:=by
 unfold QmR
 rw [show((b.length:Int) != (b.length:Int))=false by simp,cond_false,Qqk (body:=fun st=>QdW b b st) (l:=b) (fun i=>(i:Int)) (fun _ _=>false) (.inl ()) (.inr ()) (fun i x hi hx=>by
  show QdW b b i=_
  unfold QdW
  rw [QH (by omega),cond_true,Q7,hx,Qn,Qn,Qx hi h]
  simp) (by
  show QdW b b b.length=_
  unfold QdW
  rw [QJ (by omega),cond_false]) (s0:=0) rfl,QyL]
 rfl
theorem Qiy {m:List (List (Int×Int))}(h:QI (QI fun _=>True) m):Qb3 m m=some true:=by
 unfold Qb3
 rw [show((m.length:Int) != (m.length:Int))=false by simp,cond_false,Qqk (body:=fun st=>Qcm m m st) (l:=m) (fun i=>(i:Int)) (fun _ _=>false) (.inl ()) (.inr ()) (fun i x hi hx=>by
  show Qcm m m i=_
  unfold Qcm
  rw [QH (by omega),cond_true,Q7,hx,Qn,Qn,QCp x (h.2 x (Qaa hx)).1,Qn,Qx hi h.1]
  rfl) (by
  show Qcm m m m.length=_
  unfold Qcm
  rw [QJ (by omega),cond_false]) (s0:=0) rfl,QyL]
 rfl
end Go.Proofs
noncomputable section
namespace Go.Proofs
open Go Go.RowKit Go.Vm
abbrev Mk := List (List (Int×Int))
def QuZ (x:Mk×Int):Prop:=x.2=0\/x.1=[]
theorem Qz8 {o:Option (Int⊕Mk)}{f:Int->Option (Mk×Int)}{g:Mk->Option (Mk×Int)}(hf:∀e,f e=some ([],e))(hg:∀l,g l=some (l,0)){x:Mk×Int}(h:o.bind (Sum.elim f g)=some x):QuZ x:=by
 obtain⟨q,_,h⟩:=Qb h
 rcases q with q | q
 ·have h:f q=some x:=h
  rw [hf]at h;cases h;exact .inr rfl
 have h:g q=some x:=h
 rw [hg]at h;cases h;exact .inl rfl
theorem QAt {a b:Mk}{x:Mk×Int}(h:Qed a b=some x):QuZ x:=by
 unfold Qed at h
 obtain⟨_,_,h⟩:=Qb h
 exact Qz8 (fun _=>rfl) (fun _=>rfl) h
theorem Qu0 {a b:Mk}{x:Mk×Int}(h:Qa0 a b=some x):QuZ x:=by
 unfold Qa0 at h
 obtain⟨_,_,h⟩:=Qb h
 exact Qz8 (fun _=>rfl) (fun _=>rfl) h
theorem QCq {n:Qq}{m:Mk}{o:Qp}{x:Mk×Int}(h:QdN n m o=some x):QuZ x:=by
 unfold QdN at h
 obtain⟨_,_,h⟩:=Qb h
 rcases Qo h with⟨_,h⟩|⟨_,h⟩
 ·cases h;exact .inr rfl
 obtain⟨_,_,h⟩:=Qb h
 rcases Qo h with⟨_,h⟩|⟨_,h⟩
 ·cases h;exact .inr rfl
 obtain⟨y,hy,h⟩:=Qb h
 cases h;exact QAt hy
theorem QyM {n:Qq}{m:Mk}{o:Qp}{x:Mk×Int}(h:QdO n m o=some x):QuZ x:=by
 unfold QdO at h
 obtain⟨_,_,h⟩:=Qb h
 rcases Qo h with⟨_,h⟩|⟨_,h⟩
 ·cases h;exact .inr rfl
 obtain⟨_,_,h⟩:=Qb h
 obtain⟨_,_,h⟩:=Qb h
 obtain⟨_,_,h⟩:=Qb h
 unfold Qfx at h
 obtain⟨y,hy,h⟩:=Qb h
 cases h;exact Qu0 hy
theorem QDD {n:Qq}{m:Mk}{o:Qp}{x:Mk×Int}(h:Qee n m o=some x):QuZ x:=by
 unfold Qee at h
 obtain⟨_,_,h⟩:=Qb h
 rcases Qo h with⟨_,h⟩|⟨_,h⟩
 ·cases h;exact .inr rfl
 obtain⟨y,hy,h⟩:=Qb h
 cases h;exact QyM hy
theorem QuZ.len {n:Qq}(hN:QbA n){c:Nat}(hc:c<=1000000){x:Mk×Int}(h:QuZ x)(hx:x.2=0->MOk n c x.1):QI (QI fun _=>True) x.1:=by
 rcases h with h | h
 ·exact(hx h).len hN hc
 rw [h];exact QI.nil
theorem QDE {n:Qq}(hN:QbA n){c:Nat}(hc:c<=1000000){m:Mk}(hm:MOk n c m):Qy (fun st:Int×Mk=>QbE m st.1 st.2) (0,m)=some m:=by
 have mx:(1000000:Nat)<=maxLen:=by decide
 have hpl:=hN.pl
 have hml:=hm.1
 obtain⟨r,hr,rfl⟩:=QhB (body:=fun st:Int×Mk=>QbE m st.1 st.2) m.length (fun i s=>s=((i:Int),m)) (fun r=>r=m) (fun i s hi hs=>by
  subst hs
  left
  show ∃s',QbE m i m=_/\_
  unfold QbE
  have hb:=(hm.2 _ (Qbk hi)).2
  rw [QH (by omega:(i:Int)<(m.length:Int)),cond_true,Q7,QM hi,Qn,Qf4 (by simp;omega),Qn,Qn]
  refine⟨_,rfl,?_⟩
  rw [Qx hi (by omega),Qls,Qo2,List.set_getElem_self]) (fun s hs=>by
  subst hs
  refine⟨_,?_,rfl⟩
  show QbE m m.length m=_
  unfold QbE
  rw [QJ (by omega)];rfl) (0,m) rfl
 exact hr
theorem QC3 {x:Mk×Int}(h:QI (QI fun _=>True) x.1):Qy (fun st=>QbF x st) 0=some ():=by
 obtain⟨r,hr,_⟩:=QhB (body:=fun st:Int=>QbF x st) x.1.length (fun i s=>s=(i:Int)) (fun _=>True) (fun i s hi hs=>by
  subst hs
  left
  show ∃s',QbF x i=_/\_
  unfold QbF
  have hx:idx x.1 (i:Int)=some x.1[i]:=by rw [Q7,QM hi]
  have hl:=(h.2 _ (Qbk hi)).1
  obtain⟨r,hr,_⟩:=QhB (body:=fun st:Int=>Qcn x i st) x.1[i].length (fun k s=>s=(k:Int)) (fun _=>True) (fun k s hk hs=>by
   subst hs
   left
   show ∃s',Qcn x i k=_/\_
   unfold Qcn
   rw [hx,Qn,QH (by omega),cond_true,Qn,Q7,QM hk,Qn]
   exact⟨_,rfl,Qx hk hl⟩) (fun s hs=>by
   subst hs
   refine⟨(),?_,trivial⟩
   show Qcn x i (x.1[i].length:Int)=_
   unfold Qcn
   rw [hx,Qn,QJ (by omega)];rfl) 0 rfl
  rw [QH (by omega),cond_true,hr,Qn]
  exact⟨_,rfl,Qx hi h.1⟩) (fun s hs=>by
  subst hs
  refine⟨(),?_,trivial⟩
  show QbF x (x.1.length:Int)=_
  unfold QbF
  rw [QJ (by omega)];rfl) 0 rfl
 exact hr
theorem QCr {n:Qq}{m:Mk}{o:Qp}(hn:QZ n)(hr:RN n)(hm0:QI (QI fun _=>True) m):QfQ n m o=some true:=by
 unfold QfQ
 rw [QBl,Qn]
 obtain⟨x7,h7,hfine⟩:=QD5 n m hn hm0
 rw [h7,Qn]
 cases hcc:((!x7)||((decide (20<(o.Vars.length:Int)))||((decide (20<(o.Ins.length:Int)))||(decide (20<(o.Outs.length:Int))))))with
 | true=>rfl
 | false=>
  simp only [Qdf,QhL,QaT]at hcc
  obtain⟨c1,c2,c3,c4⟩:=hcc
  obtain⟨hN,hm,_⟩:=hfine c1
  have ho:Qev n o:=⟨by omega,by omega,by omega⟩
  have hpl:=hN.pl
  have hml:=hm.1
  rw [cond_false,Qo2,Qf4 (by simp;omega),Qn,QDE hN (by omega) hm,Qn]
  unfold Qii
  obtain⟨a,a1,a2⟩:=QzV n m o 1024 hN hm (by omega) ho
  obtain⟨b,b1,b2⟩:=QCb n m o 1024 hN hm (by omega) ho
  obtain⟨d,d1,d2⟩:=QEX n m o 1024 hN hm (by omega) ho
  have back:∃r,Qll n m o=some r/\Qm0 n m o=some r/\QI (QI fun _=>True) r.1:=by
   unfold Qll Qm0
   rw [Qte hN hr ho]
   obtain⟨x,x1,x2⟩:=Qvf n o hN ho
   rw [x1,Qn,Qn]
   cases hz:(x.2 != 0)with
   | true=>exact⟨_,rfl,rfl,QI.nil⟩
   | false=>
    have hx:=(x2 (by simpa using hz)).1
    have hz0:x.2=0:=by simpa using hz
    obtain⟨x,e⟩:=x
    replace hz0:e=0:=hz0
    subst hz0
    rw [cond_false,cond_false,QCo hN hr (c:=1024) (by omega) hm ho x1]
    obtain⟨y,y1,y2⟩:=QyC n m x 1024 20 hN hm hx (by omega)
    rw [y1]
    exact⟨y,rfl,rfl,(Qu0 y1).len hN (c:=1024+20) (by omega) y2⟩
  obtain⟨r,r1,r2,r3⟩:=back
  rw [a1,QyJ hN hr (c:=1024) (by omega) hm ho,a1,b1,QyK hN hr (c:=1024) (by omega) hm ho,b1,r1,r2,d1,QDC hN hr (c:=1024) (by omega) hm ho,d1]
  simp only [Qn]
  have la:=(QCq a1).len hN (c:=1024+20) (by omega) a2
  have lb:=(QyM b1).len hN (c:=1024+20) (by omega) b2
  have ld:=(QDD d1).len hN (c:=1024+40) (by omega) d2
  unfold Qnf
  rw [Qiy la,Qn,cond_true,Qiy lb,Qn,cond_true,Qiy r3,Qn,cond_true,Qiy ld,Qn,Qn]
  unfold Qf3
  rw [QC3 lb,Qn]
  unfold QiQ Qnh
  simp only [cond_true,beq_self_eq_true]
  rw [Qiy (hm.len hN (by omega))]
  rfl
end Go.Proofs
