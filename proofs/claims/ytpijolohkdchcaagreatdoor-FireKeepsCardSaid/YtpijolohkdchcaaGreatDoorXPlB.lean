/- A part of the proof; what it holds is told at each theorem. -/
import Derived.Test.YtpijolohkdchcaaGreatDoorXPlA
import Derived.Test.YtpijolohkdchcaaGreatDoorXVm5
set_option linter.unusedVariables false
set_option linter.unusedSimpArgs false
set_option linter.unusedSectionVars false
set_option linter.deprecated false
namespace Go.Vm
open Go Go.RowKit
def Asc (l:List (Int×Int)):Prop:=l.Pairwise fun p q=>p.1<q.1
def Qkg (l:List (Int×Int)):Prop:=l.Pairwise fun p q=>p.1≠q.1
theorem Asc.nd {l:List (Int×Int)}(h:Asc l):Qkg l:=h.imp fun h=>by omega
theorem Qfe {p:Int×Int}{l:List (Int×Int)}:Asc (p::l)↔(∀q∈l,p.1<q.1)∧Asc l:=List.pairwise_cons
theorem Qrc {p:Int×Int}{l:List (Int×Int)}:Qkg (p::l)↔(∀q∈l,p.1≠q.1)∧Qkg l:=List.pairwise_cons
theorem Qo1 {l:List (Int×Int)}{k:Int}:mget l k=none↔∀p∈l,p.1≠k:=by
 induction l with
 | nil=>simp [mget]
 | cons p l ih=>
  obtain⟨a,x⟩:=p
  rw [QX]
  by_cases h:a=k
  ·simp [h]
  ·simp [h,ih]
theorem Qb8 {l:List (Int×Int)}(hn:Qkg l){k v:Int}:mget l k=some v↔(k,v)∈l:=by
 induction l with
 | nil=>simp [mget]
 | cons p l ih=>
  obtain⟨a,x⟩:=p
  obtain⟨h1,h2⟩:=Qrc.1 hn
  rw [QX]
  by_cases h:a=k
  ·subst h
   rw [if_pos rfl]
   constructor
   ·intro e;cases e;simp
   ·intro e
    rcases List.mem_cons.1 e with e | e
    ·cases e;rfl
    ·exact absurd rfl (h1 (a,v) e)
  ·rw [if_neg h,ih h2]
   constructor
   ·intro e;exact List.mem_cons_of_mem _ e
   ·intro e
    rcases List.mem_cons.1 e with e | e
    ·cases e;exact absurd rfl h
    ·exact e
theorem Qt0 {l m:List (Int×Int)}(hl:Qkg l)(h:l.Perm m)(k:Int):mget l k=mget m k:=by
 have hm:Qkg m:=(h.pairwise_iff (fun hab=>Ne.symm hab)).1 hl
 apply Option.ext
 intro v
 rw [Qb8 hl,Qb8 hm]
 exact h.mem_iff
theorem Qrd {l m:List (Int×Int)}(hl:Asc l)(hm:Asc m)(h:∀k,mget l k=mget m k):l=m:=by
 induction l generalizing m with
 | nil=>
  cases m with
  | nil=>rfl
  | cons p m=>have:=h p.1;rw [QX (κ:=Int)]at this;simp [mget]at this
 | cons p l ih=>
  obtain⟨a,x⟩:=p
  cases m with
  | nil=>have:=h a;rw [QX]at this;simp [mget]at this
  | cons q m=>
   obtain⟨b,y⟩:=q
   obtain⟨l1,l2⟩:=Qfe.1 hl
   obtain⟨m1,m2⟩:=Qfe.1 hm
   have hab:a=b:=by
    rcases Int.lt_trichotomy a b with hc | hc | hc
    ·have e:=h a
     rw [QX,QX,if_pos rfl,if_neg (by omega),Qo1.2 (fun p hp=>by have:=m1 p hp;simp at this;omega)]at e
     cases e
    ·exact hc
    ·have e:=h b
     rw [QX,QX,if_neg (by omega),if_pos rfl,Qo1.2 (fun p hp=>by have:=l1 p hp;simp at this;omega)]at e
     cases e
   subst hab
   have e:=h a
   rw [QX,QX,if_pos rfl,if_pos rfl]at e
   cases e
   rw [ih l2 m2 fun k=>?_]
   by_cases hk:a=k
   ·subst hk
    rw [Qo1.2 (fun p hp=>by have:=l1 p hp;simp at this;omega),Qo1.2 (fun p hp=>by have:=m1 p hp;simp at this;omega)]
   ·have:=h k
    rwa [QX,QX,if_neg hk,if_neg hk]at this
theorem Qvw {l:List (Int×Int)}{k v:Int}{p:Int×Int}(h:p∈mrep l k v):∃q∈l,q.1=p.1:=by
 induction l with
 | nil=>cases h
 | cons q l ih=>
  obtain⟨a,x⟩:=q
  rw [mrep]at h
  split at h
  ·rename_i e
   rcases List.mem_cons.1 h with rfl | h
   ·exact⟨_,List.mem_cons_self,e⟩
   ·exact⟨p,List.mem_cons_of_mem _ h,rfl⟩
  ·rcases List.mem_cons.1 h with rfl | h
   ·exact⟨_,List.mem_cons_self,rfl⟩
   ·obtain⟨q,h1,h2⟩:=ih h
    exact⟨q,List.mem_cons_of_mem _ h1,h2⟩
theorem Quv {lt:Int→Int→Bool}{l:List (Int×Int)}{k v:Int}{p:Int×Int}(h:p∈mins lt l k v):p=(k,v)∨p∈l:=by
 induction l with
 | nil=>simp [mins]at h;exact .inl h
 | cons q l ih=>
  obtain⟨a,x⟩:=q
  rw [mins]at h
  split at h
  ·rcases List.mem_cons.1 h with h | h
   ·exact .inl h
   ·exact .inr h
  ·rcases List.mem_cons.1 h with h | h
   ·exact .inr (h▸List.mem_cons_self)
   ·rcases ih h with h | h
    ·exact .inl h
    ·exact .inr (List.mem_cons_of_mem _ h)
theorem Qsm {l:List (Int×Int)}(h:Asc l)(k v:Int):Asc (mset ltI l k v):=by
 unfold mset
 split
 ·rename_i x hx
  clear hx
  induction l with
  | nil=>exact h
  | cons p l ih=>
   obtain⟨a,x⟩:=p
   obtain⟨h1,h2⟩:=Qfe.1 h
   rw [mrep]
   split
   ·rename_i e;subst e;exact Qfe.2 ⟨h1,h2⟩
   ·refine Qfe.2 ⟨fun q hq=>?_,ih h2⟩
    obtain⟨q',hq',e⟩:=Qvw hq
    rw [←e];exact h1 _ hq'
 ·rename_i hn
  induction l with
  | nil=>exact List.pairwise_singleton _ _
  | cons p l ih=>
   obtain⟨a,x⟩:=p
   obtain⟨h1,h2⟩:=Qfe.1 h
   rw [QX]at hn
   split at hn
   ·cases hn
   ·rename_i hne
    rw [mins]
    split
    ·rename_i e
     have e:k<a:=of_decide_eq_true e
     refine Qfe.2 ⟨fun q hq=>?_,h⟩
     rcases List.mem_cons.1 hq with rfl | hq
     ·exact e
     ·have:=h1 q hq;simp at this ⊢;omega
    ·rename_i e
     have e:¬k<a:=fun c=>e (decide_eq_true c)
     refine Qfe.2 ⟨fun q hq=>?_,ih h2 hn⟩
     rcases Quv hq with rfl | hq
     ·show a<k;omega
     ·exact h1 q hq
theorem Quw {l:List (Int×Int)}{k v:Int}:(mrep l k v).length=l.length:=by
 induction l with
 | nil=>rfl
 | cons p l ih=>
  obtain⟨a,x⟩:=p
  rw [mrep]
  split
  ·rfl
  ·simp [ih]
theorem Qux {lt:Int→Int→Bool}{l:List (Int×Int)}{k v:Int}:(mins lt l k v).length=l.length+1:=by
 induction l with
 | nil=>rfl
 | cons p l ih=>
  obtain⟨a,x⟩:=p
  rw [mins]
  split
  ·rfl
  ·simp [ih]
theorem Quy {l:List (Int×Int)}{k v:Int}:(mset ltI l k v).length≤l.length+1:=by
 unfold mset
 split
 ·rw [Quw];omega
 ·rw [Qux];exact Nat.le_refl _
theorem Quz {l:List (Int×Int)}{k v:Int}(h:Asc (l++[(k,v)])):mset ltI l k v=l++[(k,v)]:=by
 have hl:Asc l:=(List.pairwise_append.1 h).1
 refine Qrd (Qsm hl k v) h fun j=>?_
 rw [QkU]
 have hk:∀p∈l,p.1<k:=fun p hp=>(List.pairwise_append.1 h).2.2 p hp (k,v) (by simp)
 clear h
 induction l with
 | nil=>
  show(if j=k then some v else none)=(if k=j then some v else none)
  by_cases c:j=k
  ·rw [if_pos c,if_pos c.symm]
  ·rw [if_neg c,if_neg (fun e=>c e.symm)]
 | cons p l ih=>
  obtain⟨a,x⟩:=p
  have h1:=hk (a,x) List.mem_cons_self
  simp only at h1
  rw [List.cons_append,QX,QX]
  rw [←ih (Qfe.1 hl).2 fun p hp=>hk p (List.mem_cons_of_mem _ hp)]
  by_cases c:j=k
  ·subst c;rw [if_pos rfl,if_pos rfl,if_neg (by omega)]
  ·rw [if_neg c,if_neg c]
section
variable {ρ:Type}{g:Int→Int→Int}{stop:Int→Bool}{q:Option ρ}{body:List (Int×Int)→Int×Int→Option (List (Int×Int)⊕ρ)}
def cntL (s:List (Int×Int))(k:Int):Int:=(mget s k).getD 0
def Qo2 (g:Int→Int→Int)(s l:List (Int×Int))(k:Int):Option Int:=match mget l k with
 | some v=>some (g (cntL s k) v)
 | none=>mget s k
theorem Qnz (hb:∀s p,body s p=bif stop (g (cntL s p.1) p.2)then q.map Sum.inr else some (.inl (mset ltI s p.1 (g (cntL s p.1) p.2)))):
  ∀l s,Asc s→Qkg l→((∃p∈l,stop (g (cntL s p.1) p.2)=true)∧runL body s l=q.map Sum.inr)∨
   ((∀p∈l,stop (g (cntL s p.1) p.2)=false)∧∃s',runL body s l=some (.inl s')∧Asc s'∧s'.length≤s.length+l.length∧∀k,mget s' k=Qo2 g s l k):=by
 intro l
 induction l with
 | nil=>intro s hs _;exact .inr ⟨fun p h=>(by cases h),s,rfl,hs,by simp,fun k=>rfl⟩
 | cons p l ih=>
  intro s hs hl
  obtain⟨h1,h2⟩:=Qrc.1 hl
  simp only [runL,hb]
  cases hst:stop (g (cntL s p.1) p.2)with
  | true=>exact .inl ⟨⟨p,List.mem_cons_self,hst⟩,by cases q<;>rfl⟩
  | false=>
   simp only [cond_false,Option.bind_some,Sum.elim_inl]
   have hc:∀r∈l,cntL (mset ltI s p.1 (g (cntL s p.1) p.2)) r.1=cntL s r.1:=fun r hr=>by
    unfold cntL
    rw [QkU,if_neg (fun e=>h1 r hr e.symm)]
   rcases ih _ (Qsm hs p.1 (g (cntL s p.1) p.2)) h2 with⟨⟨r,hr,h3⟩,h4⟩|⟨h3,s',h4,h5,h6,h7⟩
   ·exact .inl ⟨⟨r,List.mem_cons_of_mem _ hr,by rw [hc r hr]at h3;exact h3⟩,h4⟩
   ·refine .inr ⟨fun r hr=>?_,s',h4,h5,?_,fun k=>?_⟩
    ·rcases List.mem_cons.1 hr with rfl | hr
     ·exact hst
     ·have:=h3 r hr;rwa [hc r hr]at this
    ·have:=Quy (l:=s) (k:=p.1) (v:=g (cntL s p.1) p.2)
     simp;omega
    ·rw [h7]
     obtain⟨a,x⟩:=p
     unfold Qo2
     rw [QX]
     by_cases e:a=k
     ·subst e
      rw [if_pos rfl,Qo1.2 (fun r hr=>Ne.symm (h1 r hr)),QkU,if_pos rfl]
     ·rw [if_neg e]
      simp only [cntL,QkU,if_neg (fun e'=>e (Eq.symm e'):¬k=a)]
theorem QqC (hb:∀s p,body s p=bif stop (g (cntL s p.1) p.2)then q.map Sum.inr else some (.inl (mset ltI s p.1 (g (cntL s p.1) p.2)))){l s:List (Int×Int)}(hs:Asc s)(hl:Qkg l):
  ((∃p∈l,stop (g (cntL s p.1) p.2)=true)∧∀r,q=some r→Qg9 body s l=some (.inr r))∨
   ((∀p∈l,stop (g (cntL s p.1) p.2)=false)∧∃s',Qg9 body s l=some (.inl s')∧Asc s'∧s'.length≤s.length+l.length∧∀k,mget s' k=Qo2 g s l k):=by
 have key:∀l':List (Int×Int),l'.Perm l→runL body s l'=runL body s l:=fun l' hp=>by
  have hl':Qkg l':=(hp.pairwise_iff (fun hab=>Ne.symm hab)).2 hl
  rcases Qnz hb l' s hs hl' with⟨⟨p,h1,h2⟩,h3⟩|⟨h1,s1,h3,h4,_,h5⟩
  ·rcases Qnz hb l s hs hl with⟨_,g3⟩|⟨g1,_⟩
   ·rw [h3,g3]
   ·rw [g1 p (hp.mem_iff.1 h1)]at h2;cases h2
  ·rcases Qnz hb l s hs hl with⟨⟨p,g1,g2⟩,g3⟩|⟨g1,s2,g3,g4,_,g5⟩
   ·rw [h1 p (hp.mem_iff.2 g1)]at g2;cases g2
   ·rw [h3,g3,Qrd h4 g4 fun k=>?_]
    rw [h5,g5]
    unfold Qo2
    rw [Qt0 hl' hp k]
 rcases Qnz hb l s hs hl with⟨h1,h3⟩|⟨h1,s1,h3,h4,h6,h5⟩
 ·exact .inl ⟨h1,fun r hr=>Qii.2 ⟨key,by rw [h3,hr];rfl⟩⟩
 ·exact .inr ⟨h1,s1,Qii.2 ⟨key,h3⟩,h4,h6,h5⟩
end
theorem Qto {ρ:Type}{bad:Int×Int→Bool}{q:ρ}{body:Unit→Int×Int→Option (Unit⊕ρ)}(hb:∀p,body () p=some (bif bad p then .inr q else .inl ()))(l:List (Int×Int)):
  Qg9 body () l=some (bif l.any bad then .inr q else .inl ()):=by
 have h1:∀l:List (Int×Int),runL body () l=some (bif l.any bad then .inr q else .inl ()):=by
  intro l
  induction l with
  | nil=>rfl
  | cons p l ih=>
   simp only [runL,hb,Option.bind_some,List.any_cons]
   cases bad p with
   | true=>rfl
   | false=>exact ih
 refine Qii.2 ⟨fun l' hp=>?_,h1 l⟩
 rw [h1,h1]
 congr 2
 rw [Bool.eq_iff_iff,List.any_eq_true,List.any_eq_true]
 exact⟨fun ⟨x,a,b⟩=>⟨x,hp.mem_iff.1 a,b⟩,fun ⟨x,a,b⟩=>⟨x,hp.mem_iff.2 a,b⟩⟩
def rtF (a:Int):List (Int×Int)→Bool
 | []=>true
 | p::r=>!(decide (p.1≤a)||(decide (p.2<1)||decide (1048576<p.2)))&&rtF p.1 r
theorem Qu3 {a:Int}{l:List (Int×Int)}:rtF a l=true↔Asc l∧∀p∈l,a<p.1∧1≤p.2∧p.2≤1048576:=by
 induction l generalizing a with
 | nil=>simp [rtF,Asc]
 | cons p l ih=>
  rw [rtF,Bool.and_eq_true,ih,Qfe]
  simp only [Bool.not_eq_true',Bool.or_eq_false_iff,decide_eq_false_iff_not]
  constructor
  ·rintro ⟨⟨h1,h2,h3⟩,h4,h5⟩
   refine⟨⟨fun q hq=>(h5 q hq).1,h4⟩,fun q hq=>?_⟩
   rcases List.mem_cons.1 hq with rfl | hq
   ·omega
   ·have:=h5 q hq;omega
  ·rintro ⟨⟨h1,h2⟩,h3⟩
   have:=h3 p List.mem_cons_self
   exact⟨by omega,h2,fun q hq=>⟨h1 q hq,(h3 q (List.mem_cons_of_mem _ hq)).2⟩⟩
def Rt (l:List (Int×Int)):Prop:=Asc l∧∀p∈l,0≤p.1∧1≤p.2∧p.2≤1048576
theorem QdL {l:List (Int×Int)}:rtF (-1) l=true↔Rt l:=by
 rw [Qu3]
 constructor
 ·rintro ⟨h1,h2⟩;exact⟨h1,fun p hp=>by have:=h2 p hp;omega⟩
 ·rintro ⟨h1,h2⟩;exact⟨h1,fun p hp=>by have:=h2 p hp;omega⟩
theorem Rt.nil : Rt []:=⟨List.Pairwise.nil,fun p h=>by cases h⟩
theorem Qjv {l:List (Int×Int)}(h:Qkg l){p:Int×Int}(hp:p∈l):cntL l p.1=p.2:=by
 unfold cntL;rw [(Qb8 h).2 (show(p.1,p.2)∈l from hp)];rfl
theorem Rt.cnt {l:List (Int×Int)}(h:Rt l)(k:Int):0≤cntL l k∧cntL l k≤1048576:=by
 unfold cntL
 cases e:mget l k with
 | none=>simp
 | some v=>have:=h.2 _ ((Qb8 h.1.nd).1 e);simp at this ⊢;omega
theorem Rt.cnt_pos {l:List (Int×Int)}(h:Rt l){k:Int}(hk:0<cntL l k):0≤k:=by
 unfold cntL at hk
 cases e:mget l k with
 | none=>rw [e]at hk;simp at hk
 | some v=>exact(h.2 _ ((Qb8 h.1.nd).1 e)).1
theorem Qvx {l m:List (Int×Int)}(hl:Rt l)(hm:Rt m)(h:∀k,cntL l k=cntL m k):l=m:=by
 refine Qrd hl.1 hm.1 fun k=>?_
 have:=h k
 unfold cntL at this
 cases e1:mget l k with
 | none=>
  cases e2:mget m k with
  | none=>rfl
  | some v=>have h3:=hm.2 _ ((Qb8 hm.1.nd).1 e2);rw [e1,e2]at this;simp at this h3;omega
 | some v=>
  have h3:=hl.2 _ ((Qb8 hl.1.nd).1 e1)
  cases e2:mget m k with
  | none=>rw [e1,e2]at this;simp at this h3;omega
  | some u=>rw [e1,e2]at this;simpa using this
def posL (l:List (Int×Int)):List (Int×Int):=l.filter fun p=>decide (0<p.2)
theorem Qsn {l:List (Int×Int)}(h:Asc l)(k:Int):cntL (posL l) k=if 0<cntL l k then cntL l k else 0:=by
 have hp:Asc (posL l):=h.sublist List.filter_sublist
 by_cases c:0<cntL l k
 ·rw [if_pos c]
  unfold cntL at c
  cases e:mget l k with
  | none=>rw [e]at c;simp at c
  | some v=>
   rw [e]at c
   have h1:(k,v)∈posL l:=List.mem_filter.2 ⟨(Qb8 h.nd).1 e,by simpa using c⟩
   unfold cntL
   rw [(Qb8 hp.nd).2 h1,e]
 ·rw [if_neg c]
  unfold cntL
  cases e:mget (posL l) k with
  | none=>rfl
  | some v=>
   have h1:=List.mem_filter.1 ((Qb8 hp.nd).1 e)
   have h2:=(Qb8 h.nd).2 h1.1
   unfold cntL at c
   rw [h2]at c
   simp at h1 c;omega
theorem Qt1 {l:List (Int×Int)}(h:Asc l)(hb:∀k,0<cntL l k→0≤k∧cntL l k≤1048576):Rt (posL l):=by
 refine⟨h.sublist List.filter_sublist,fun p hp=>?_⟩
 obtain⟨h1,h2⟩:=List.mem_filter.1 hp
 have h3:=Qjv h.nd h1
 have h4:0<p.2:=of_decide_eq_true h2
 have:=hb p.1 (by omega)
 omega
theorem Qt2 {l:List (Int×Int)}(h:Asc l):Qb7 (l.map Prod.fst)=l.map Prod.fst:=by
 unfold Qb7
 refine List.mergeSort_of_pairwise ?_
 rw [List.pairwise_map]
 exact h.imp fun h=>by simp;omega
end Go.Vm
