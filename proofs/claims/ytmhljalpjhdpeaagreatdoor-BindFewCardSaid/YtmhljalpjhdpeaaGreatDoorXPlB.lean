/- A part of the proof; what it holds is told at each theorem. -/
import Derived.Test.YtmhljalpjhdpeaaGreatDoorXPlA
import Derived.Test.YtmhljalpjhdpeaaGreatDoorXVm5
set_option linter.unusedVariables false
set_option linter.unusedSimpArgs false
set_option linter.unusedSectionVars false
set_option linter.deprecated false
namespace Go.Vm
open Go Go.RowKit
def Asc (l:List (Int×Int)):Prop:=l.Pairwise fun p q=>p.1<q.1
def QjQ (l:List (Int×Int)):Prop:=l.Pairwise fun p q=>p.1≠q.1
theorem Asc.nd {l:List (Int×Int)}(h:Asc l):QjQ l:=h.imp fun h=>by omega
theorem QeG {p:Int×Int}{l:List (Int×Int)}:Asc (p::l)↔(∀q∈l,p.1<q.1)∧Asc l:=List.pairwise_cons
theorem Qrw {p:Int×Int}{l:List (Int×Int)}:QjQ (p::l)↔(∀q∈l,p.1≠q.1)∧QjQ l:=List.pairwise_cons
theorem Qpv {l:List (Int×Int)}{k:Int}:mget l k=none↔∀p∈l,p.1≠k:=by
 induction l with
 | nil=>simp [mget]
 | cons p l ih=>
  obtain⟨a,x⟩:=p
  rw [Q3]
  by_cases h:a=k
  ·simp [h]
  ·simp [h,ih]
theorem QcF {l:List (Int×Int)}(hn:QjQ l){k v:Int}:mget l k=some v↔(k,v)∈l:=by
 induction l with
 | nil=>simp [mget]
 | cons p l ih=>
  obtain⟨a,x⟩:=p
  obtain⟨h1,h2⟩:=Qrw.1 hn
  rw [Q3]
  by_cases h:a=k
  ·subst h
   rw [if_pos rfl]
   constructor
   ·intro e;cases e;simp
   ·intro e
    rcases List.mem_cons.1 e with e | e
    ·cases e;rfl
    ·exact absurd rfl (h1 (a,v) e)
  ·rw [if_neg h,ih h2]
   constructor
   ·intro e;exact List.mem_cons_of_mem _ e
   ·intro e
    rcases List.mem_cons.1 e with e | e
    ·cases e;exact absurd rfl h
    ·exact e
theorem QsJ {l m:List (Int×Int)}(hl:QjQ l)(h:l.Perm m)(k:Int):mget l k=mget m k:=by
 have hm:QjQ m:=(h.pairwise_iff (fun hab=>Ne.symm hab)).1 hl
 apply Option.ext
 intro v
 rw [QcF hl,QcF hm]
 exact h.mem_iff
theorem Qrx {l m:List (Int×Int)}(hl:Asc l)(hm:Asc m)(h:∀k,mget l k=mget m k):l=m:=by
 induction l generalizing m with
 | nil=>
  cases m with
  | nil=>rfl
  | cons p m=>have:=h p.1;rw [Q3 (κ:=Int)]at this;simp [mget]at this
 | cons p l ih=>
  obtain⟨a,x⟩:=p
  cases m with
  | nil=>have:=h a;rw [Q3]at this;simp [mget]at this
  | cons q m=>
   obtain⟨b,y⟩:=q
   obtain⟨l1,l2⟩:=QeG.1 hl
   obtain⟨m1,m2⟩:=QeG.1 hm
   have hab:a=b:=by
    rcases Int.lt_trichotomy a b with hc | hc | hc
    ·have e:=h a
     rw [Q3,Q3,if_pos rfl,if_neg (by omega),Qpv.2 (fun p hp=>by have:=m1 p hp;simp at this;omega)]at e
     cases e
    ·exact hc
    ·have e:=h b
     rw [Q3,Q3,if_neg (by omega),if_pos rfl,Qpv.2 (fun p hp=>by have:=l1 p hp;simp at this;omega)]at e
     cases e
   subst hab
   have e:=h a
   rw [Q3,Q3,if_pos rfl,if_pos rfl]at e
   cases e
   rw [ih l2 m2 fun k=>?_]
   by_cases hk:a=k
   ·subst hk
    rw [Qpv.2 (fun p hp=>by have:=l1 p hp;simp at this;omega),Qpv.2 (fun p hp=>by have:=m1 p hp;simp at this;omega)]
   ·have:=h k
    rwa [Q3,Q3,if_neg hk,if_neg hk]at this
theorem Qub {l:List (Int×Int)}{k v:Int}{p:Int×Int}(h:p∈mrep l k v):∃q∈l,q.1=p.1:=by
 induction l with
 | nil=>cases h
 | cons q l ih=>
  obtain⟨a,x⟩:=q
  rw [mrep]at h
  split at h
  ·rename_i e
   rcases List.mem_cons.1 h with rfl | h
   ·exact⟨_,List.mem_cons_self,e⟩
   ·exact⟨p,List.mem_cons_of_mem _ h,rfl⟩
  ·rcases List.mem_cons.1 h with rfl | h
   ·exact⟨_,List.mem_cons_self,rfl⟩
   ·obtain⟨q,h1,h2⟩:=ih h
    exact⟨q,List.mem_cons_of_mem _ h1,h2⟩
theorem Qte {lt:Int→Int→Bool}{l:List (Int×Int)}{k v:Int}{p:Int×Int}(h:p∈mins lt l k v):p=(k,v)∨p∈l:=by
 induction l with
 | nil=>simp [mins]at h;exact .inl h
 | cons q l ih=>
  obtain⟨a,x⟩:=q
  rw [mins]at h
  split at h
  ·rcases List.mem_cons.1 h with h | h
   ·exact .inl h
   ·exact .inr h
  ·rcases List.mem_cons.1 h with h | h
   ·exact .inr (h▸List.mem_cons_self)
   ·rcases ih h with h | h
    ·exact .inl h
    ·exact .inr (List.mem_cons_of_mem _ h)
theorem Qq5 {l:List (Int×Int)}(h:Asc l)(k v:Int):Asc (mset ltI l k v):=by
 unfold mset
 split
 ·rename_i x hx
  clear hx
  induction l with
  | nil=>exact h
  | cons p l ih=>
   obtain⟨a,x⟩:=p
   obtain⟨h1,h2⟩:=QeG.1 h
   rw [mrep]
   split
   ·rename_i e;subst e;exact QeG.2 ⟨h1,h2⟩
   ·refine QeG.2 ⟨fun q hq=>?_,ih h2⟩
    obtain⟨q',hq',e⟩:=Qub hq
    rw [←e];exact h1 _ hq'
 ·rename_i hn
  induction l with
  | nil=>exact List.pairwise_singleton _ _
  | cons p l ih=>
   obtain⟨a,x⟩:=p
   obtain⟨h1,h2⟩:=QeG.1 h
   rw [Q3]at hn
   split at hn
   ·cases hn
   ·rename_i hne
    rw [mins]
    split
    ·rename_i e
     have e:k<a:=of_decide_eq_true e
     refine QeG.2 ⟨fun q hq=>?_,h⟩
     rcases List.mem_cons.1 hq with rfl | hq
     ·exact e
     ·have:=h1 q hq;simp at this ⊢;omega
    ·rename_i e
     have e:¬k<a:=fun c=>e (decide_eq_true c)
     refine QeG.2 ⟨fun q hq=>?_,ih h2 hn⟩
     rcases Qte hq with rfl | hq
     ·show a<k;omega
     ·exact h1 q hq
theorem Qtf {l:List (Int×Int)}{k v:Int}:(mrep l k v).length=l.length:=by
 induction l with
 | nil=>rfl
 | cons p l ih=>
  obtain⟨a,x⟩:=p
  rw [mrep]
  split
  ·rfl
  ·simp [ih]
theorem Qtg {lt:Int→Int→Bool}{l:List (Int×Int)}{k v:Int}:(mins lt l k v).length=l.length+1:=by
 induction l with
 | nil=>rfl
 | cons p l ih=>
  obtain⟨a,x⟩:=p
  rw [mins]
  split
  ·rfl
  ·simp [ih]
theorem Qth {l:List (Int×Int)}{k v:Int}:(mset ltI l k v).length≤l.length+1:=by
 unfold mset
 split
 ·rw [Qtf];omega
 ·rw [Qtg];exact Nat.le_refl _
theorem Qti {l:List (Int×Int)}{k v:Int}(h:Asc (l++[(k,v)])):mset ltI l k v=l++[(k,v)]:=by
 have hl:Asc l:=(List.pairwise_append.1 h).1
 refine Qrx (Qq5 hl k v) h fun j=>?_
 rw [QjZ]
 have hk:∀p∈l,p.1<k:=fun p hp=>(List.pairwise_append.1 h).2.2 p hp (k,v) (by simp)
 clear h
 induction l with
 | nil=>
  show(if j=k then some v else none)=(if k=j then some v else none)
  by_cases c:j=k
  ·rw [if_pos c,if_pos c.symm]
  ·rw [if_neg c,if_neg (fun e=>c e.symm)]
 | cons p l ih=>
  obtain⟨a,x⟩:=p
  have h1:=hk (a,x) List.mem_cons_self
  simp only at h1
  rw [List.cons_append,Q3,Q3]
  rw [←ih (QeG.1 hl).2 fun p hp=>hk p (List.mem_cons_of_mem _ hp)]
  by_cases c:j=k
  ·subst c;rw [if_pos rfl,if_pos rfl,if_neg (by omega)]
  ·rw [if_neg c,if_neg c]
section
variable {ρ:Type}{g:Int→Int→Int}{stop:Int→Bool}{q:Option ρ}{body:List (Int×Int)→Int×Int→Option (List (Int×Int)⊕ρ)}
def cntL (s:List (Int×Int))(k:Int):Int:=(mget s k).getD 0
def Qpw (g:Int→Int→Int)(s l:List (Int×Int))(k:Int):Option Int:=match mget l k with
 | some v=>some (g (cntL s k) v)
 | none=>mget s k
theorem Qmt (hb:∀s p,body s p=bif stop (g (cntL s p.1) p.2)then q.map Sum.inr else some (.inl (mset ltI s p.1 (g (cntL s p.1) p.2)))):
  ∀l s,Asc s→QjQ l→((∃p∈l,stop (g (cntL s p.1) p.2)=true)∧runL body s l=q.map Sum.inr)∨
   ((∀p∈l,stop (g (cntL s p.1) p.2)=false)∧∃s',runL body s l=some (.inl s')∧Asc s'∧s'.length≤s.length+l.length∧∀k,mget s' k=Qpw g s l k):=by
 intro l
 induction l with
 | nil=>intro s hs _;exact .inr ⟨fun p h=>(by cases h),s,rfl,hs,by simp,fun k=>rfl⟩
 | cons p l ih=>
  intro s hs hl
  obtain⟨h1,h2⟩:=Qrw.1 hl
  simp only [runL,hb]
  cases hst:stop (g (cntL s p.1) p.2)with
  | true=>exact .inl ⟨⟨p,List.mem_cons_self,hst⟩,by cases q<;>rfl⟩
  | false=>
   simp only [cond_false,Option.bind_some,Sum.elim_inl]
   have hc:∀r∈l,cntL (mset ltI s p.1 (g (cntL s p.1) p.2)) r.1=cntL s r.1:=fun r hr=>by
    unfold cntL
    rw [QjZ,if_neg (fun e=>h1 r hr e.symm)]
   rcases ih _ (Qq5 hs p.1 (g (cntL s p.1) p.2)) h2 with⟨⟨r,hr,h3⟩,h4⟩|⟨h3,s',h4,h5,h6,h7⟩
   ·exact .inl ⟨⟨r,List.mem_cons_of_mem _ hr,by rw [hc r hr]at h3;exact h3⟩,h4⟩
   ·refine .inr ⟨fun r hr=>?_,s',h4,h5,?_,fun k=>?_⟩
    ·rcases List.mem_cons.1 hr with rfl | hr
     ·exact hst
     ·have:=h3 r hr;rwa [hc r hr]at this
    ·have:=Qth (l:=s) (k:=p.1) (v:=g (cntL s p.1) p.2)
     simp;omega
    ·rw [h7]
     obtain⟨a,x⟩:=p
     unfold Qpw
     rw [Q3]
     by_cases e:a=k
     ·subst e
      rw [if_pos rfl,Qpv.2 (fun r hr=>Ne.symm (h1 r hr)),QjZ,if_pos rfl]
     ·rw [if_neg e]
      simp only [cntL,QjZ,if_neg (fun e'=>e (Eq.symm e'):¬k=a)]
theorem Qr9 (hb:∀s p,body s p=bif stop (g (cntL s p.1) p.2)then q.map Sum.inr else some (.inl (mset ltI s p.1 (g (cntL s p.1) p.2)))){l s:List (Int×Int)}(hs:Asc s)(hl:QjQ l):
  ((∃p∈l,stop (g (cntL s p.1) p.2)=true)∧∀r,q=some r→QiQ body s l=some (.inr r))∨
   ((∀p∈l,stop (g (cntL s p.1) p.2)=false)∧∃s',QiQ body s l=some (.inl s')∧Asc s'∧s'.length≤s.length+l.length∧∀k,mget s' k=Qpw g s l k):=by
 have key:∀l':List (Int×Int),l'.Perm l→runL body s l'=runL body s l:=fun l' hp=>by
  have hl':QjQ l':=(hp.pairwise_iff (fun hab=>Ne.symm hab)).2 hl
  rcases Qmt hb l' s hs hl' with⟨⟨p,h1,h2⟩,h3⟩|⟨h1,s1,h3,h4,_,h5⟩
  ·rcases Qmt hb l s hs hl with⟨_,g3⟩|⟨g1,_⟩
   ·rw [h3,g3]
   ·rw [g1 p (hp.mem_iff.1 h1)]at h2;cases h2
  ·rcases Qmt hb l s hs hl with⟨⟨p,g1,g2⟩,g3⟩|⟨g1,s2,g3,g4,_,g5⟩
   ·rw [h1 p (hp.mem_iff.2 g1)]at g2;cases g2
   ·rw [h3,g3,Qrx h4 g4 fun k=>?_]
    rw [h5,g5]
    unfold Qpw
    rw [QsJ hl' hp k]
 rcases Qmt hb l s hs hl with⟨h1,h3⟩|⟨h1,s1,h3,h4,h6,h5⟩
 ·exact .inl ⟨h1,fun r hr=>QiR.2 ⟨key,by rw [h3,hr];rfl⟩⟩
 ·exact .inr ⟨h1,s1,QiR.2 ⟨key,h3⟩,h4,h6,h5⟩
end
theorem Qsa {ρ:Type}{bad:Int×Int→Bool}{q:ρ}{body:Unit→Int×Int→Option (Unit⊕ρ)}(hb:∀p,body () p=some (bif bad p then .inr q else .inl ()))(l:List (Int×Int)):
  QiQ body () l=some (bif l.any bad then .inr q else .inl ()):=by
 have h1:∀l:List (Int×Int),runL body () l=some (bif l.any bad then .inr q else .inl ()):=by
  intro l
  induction l with
  | nil=>rfl
  | cons p l ih=>
   simp only [runL,hb,Option.bind_some,List.any_cons]
   cases bad p with
   | true=>rfl
   | false=>exact ih
 refine QiR.2 ⟨fun l' hp=>?_,h1 l⟩
 rw [h1,h1]
 congr 2
 rw [Bool.eq_iff_iff,List.any_eq_true,List.any_eq_true]
 exact⟨fun ⟨x,a,b⟩=>⟨x,hp.mem_iff.1 a,b⟩,fun ⟨x,a,b⟩=>⟨x,hp.mem_iff.2 a,b⟩⟩
def rtF (a:Int):List (Int×Int)→Bool
 | []=>true
 | p::r=>!(decide (p.1≤a)||(decide (p.2<1)||decide (1048576<p.2)))&&rtF p.1 r
theorem QtI {a:Int}{l:List (Int×Int)}:rtF a l=true↔Asc l∧∀p∈l,a<p.1∧1≤p.2∧p.2≤1048576:=by
 induction l generalizing a with
 | nil=>simp [rtF,Asc]
 | cons p l ih=>
  rw [rtF,Bool.and_eq_true,ih,QeG]
  simp only [Bool.not_eq_true',Bool.or_eq_false_iff,decide_eq_false_iff_not]
  constructor
  ·rintro ⟨⟨h1,h2,h3⟩,h4,h5⟩
   refine⟨⟨fun q hq=>(h5 q hq).1,h4⟩,fun q hq=>?_⟩
   rcases List.mem_cons.1 hq with rfl | hq
   ·omega
   ·have:=h5 q hq;omega
  ·rintro ⟨⟨h1,h2⟩,h3⟩
   have:=h3 p List.mem_cons_self
   exact⟨by omega,h2,fun q hq=>⟨h1 q hq,(h3 q (List.mem_cons_of_mem _ hq)).2⟩⟩
def Rt (l:List (Int×Int)):Prop:=Asc l∧∀p∈l,0≤p.1∧1≤p.2∧p.2≤1048576
theorem Qie {l:List (Int×Int)}:rtF (-1) l=true↔Rt l:=by
 rw [QtI]
 constructor
 ·rintro ⟨h1,h2⟩;exact⟨h1,fun p hp=>by have:=h2 p hp;omega⟩
 ·rintro ⟨h1,h2⟩;exact⟨h1,fun p hp=>by have:=h2 p hp;omega⟩
theorem Rt.nil : Rt []:=⟨List.Pairwise.nil,fun p h=>by cases h⟩
theorem Qks {l:List (Int×Int)}(h:QjQ l){p:Int×Int}(hp:p∈l):cntL l p.1=p.2:=by
 unfold cntL;rw [(QcF h).2 (show(p.1,p.2)∈l from hp)];rfl
theorem Rt.cnt {l:List (Int×Int)}(h:Rt l)(k:Int):0≤cntL l k∧cntL l k≤1048576:=by
 unfold cntL
 cases e:mget l k with
 | none=>simp
 | some v=>have:=h.2 _ ((QcF h.1.nd).1 e);simp at this ⊢;omega
theorem Rt.cnt_pos {l:List (Int×Int)}(h:Rt l){k:Int}(hk:0<cntL l k):0≤k:=by
 unfold cntL at hk
 cases e:mget l k with
 | none=>rw [e]at hk;simp at hk
 | some v=>exact(h.2 _ ((QcF h.1.nd).1 e)).1
def posL (l:List (Int×Int)):List (Int×Int):=l.filter fun p=>decide (0<p.2)
theorem Qtj {l:List (Int×Int)}(h:Asc l)(k:Int):cntL (posL l) k=if 0<cntL l k then cntL l k else 0:=by
 have hp:Asc (posL l):=h.sublist List.filter_sublist
 by_cases c:0<cntL l k
 ·rw [if_pos c]
  unfold cntL at c
  cases e:mget l k with
  | none=>rw [e]at c;simp at c
  | some v=>
   rw [e]at c
   have h1:(k,v)∈posL l:=List.mem_filter.2 ⟨(QcF h.nd).1 e,by simpa using c⟩
   unfold cntL
   rw [(QcF hp.nd).2 h1,e]
 ·rw [if_neg c]
  unfold cntL
  cases e:mget (posL l) k with
  | none=>rfl
  | some v=>
   have h1:=List.mem_filter.1 ((QcF hp.nd).1 e)
   have h2:=(QcF h.nd).2 h1.1
   unfold cntL at c
   rw [h2]at c
   simp at h1 c;omega
theorem Quc {l:List (Int×Int)}(h:Asc l)(hb:∀k,0<cntL l k→0≤k∧cntL l k≤1048576):Rt (posL l):=by
 refine⟨h.sublist List.filter_sublist,fun p hp=>?_⟩
 obtain⟨h1,h2⟩:=List.mem_filter.1 hp
 have h3:=Qks h.nd h1
 have h4:0<p.2:=of_decide_eq_true h2
 have:=hb p.1 (by omega)
 omega
theorem QsK {l:List (Int×Int)}(h:Asc l):QbT (l.map Prod.fst)=l.map Prod.fst:=by
 unfold QbT
 refine List.mergeSort_of_pairwise ?_
 rw [List.pairwise_map]
 exact h.imp fun h=>by simp;omega
end Go.Vm
