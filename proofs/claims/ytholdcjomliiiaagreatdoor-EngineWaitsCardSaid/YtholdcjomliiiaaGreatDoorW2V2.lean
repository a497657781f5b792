/- A part of the proof. -/
import Derived.Test.YtholdcjomliiiaaGreatDoorW2V1
import Derived.Laws.StructEq
import Derived.Laws.Cover3
set_option linter.all false
namespace Go.Vm
open Go Go.RowKit
open Option renaming some→X,none→n_
open Bool renaming true→t_,false→f_
section
variable {κ α β:Type}[DecidableEq κ]
def Xg : L_ (κ×α)->κ->O_ α
 |[],_=>n_|(a,x)::r,k=>if a=k then X x else Xg r k
def Nl (lt:κ->κ->Bool):L_ (κ×α)->κ->α->L_ (κ×α)
 |[],k,v=>[(k,v)]|(a,x)::r,k,v=>if lt k a=t_ then(k,v)::(a,x)::r else(a,x)::Nl lt r k v
def OH : L_ (κ×α)->κ->α->L_ (κ×α)
 |[],_,_=>[]|(a,x)::r,k,v=>if a=k then(k,v)::r else(a,x)::OH r k v
def YQ (lt:κ->κ->Bool)(l:L_ (κ×α))(k:κ)(v:α):L_ (κ×α):=match Xg l k with|some _=>OH l k v|none=>Nl lt l k v
def Qhf : ∀{l:L_ (κ×α)} {k:κ} {v:α},Xg l k=X v->(k,v)∈l:=by
 intro l
 induction l with
 |nil=>intro k v h;cases h
 |cons p l O=>
  intro k v h;obtain⟨a,x⟩:=p;rw[Xg]at h;split at h
  ·rename_i e;subst e;cases h;exact Yc
  exact Ys _ (O h)
def QfJ : ∀{l:L_ (κ×α)} {k:κ} {v:α},(l.map Prod.fst).Nodup->(k,v)∈l->Xg l k=X v:=by
 intro l
 induction l with
 |nil=>intro k v _ h;cases h
 |cons p l ih=>
  intro k v O h;obtain⟨a,x⟩:=p;rw[GC,NI]at O;rw[Xg];rcases XP.1 h with h|h
  ·cases h;simp
  have:a≠k:=λe=>O.1 (by rw[show(a,x).1=k from e];exact Yt.2 ⟨(k,v),h,rfl⟩);rw[if_neg this];exact ih O.2 h
def QvU : ∀{l:L_ (κ×α)} {k:κ},Xg l k=n_->∀p∈l,p.1≠k:=by
 intro l
 induction l with
 |nil=>intro k _ p h;cases h
 |cons q l ih=>
  intro k h p hp;obtain⟨a,x⟩:=q;rw[Xg]at h;split at h
  ·cases h
  rename_i O;rcases XP.1 hp with e|hp
  ·subst e;exact O
  exact ih h p hp
def QiW (lt:κ->κ->Bool):∀(l:L_ (κ×α)) (k:κ) (v:α),(Nl lt l k v).Perm ((k,v)::l):=by
 intro l
 induction l with
 |nil=>intro k v;exact .refl _|cons p l h=>
  intro k v;obtain⟨a,x⟩:=p;rw[Nl];split
  ·exact .refl _
  exact((h k v).cons (a,x)).trans (.swap _ _ _)
def QlF : ∀(l:L_ (κ×α)) (k:κ) (v:α),(OH l k v).map Prod.fst=l.map Prod.fst:=by
 intro l
 induction l with
 |nil=>intro k v;rfl|cons p l h=>
  intro k v;obtain⟨a,x⟩:=p;rw[OH];split
  ·rename_i e;subst e;rfl
  rw[GC,GC,h]
def Qxp : ∀{l:L_ (κ×α)} {k:κ} {v:α},(l.map Prod.fst).Nodup->(∃x,(k,x)∈l)->∀p,p∈OH l k v↔p=(k,v)\/(p∈l/\p.1≠k):=by
 intro l
 induction l with
 |nil=>intro k v _ ⟨x,h⟩;cases h
 |cons q l ih=>
  intro k v hn ⟨x,hx⟩ p;obtain⟨a,y⟩:=q;rw[GC,NI]at hn;rw[OH];split
  ·rename_i e;subst e;have hno:∀p∈l,p.1≠a:=λp hp e=>hn.1 (Yt.2 ⟨p,hp,e⟩);constructor
   ·intro h;rcases XP.1 h with h|h
    ·exact .inl h
    exact .inr ⟨Ys _ h,hno p h⟩
   rintro (h|⟨h,h'⟩)
   ·rw[h];exact Yc
   rcases XP.1 h with h|h
   ·subst h;exact absurd rfl h'
   exact Ys _ h
  rename_i O;have hx':(k,x)∈l:=by
   rcases XP.1 hx with h|h
   ·cases h;exact absurd rfl O
   exact h
  have:=ih hn.2 ⟨x,hx'⟩ (v:=v) p;rw[XP,this,XP];constructor
  ·rintro (h|h|h)
   ·subst h;exact .inr ⟨.inl rfl,O⟩
   ·exact .inl h
   exact .inr ⟨.inr h.1,h.2⟩
  rintro (h|⟨h|h,h'⟩)
  ·exact .inr (.inl h)
  ·exact .inl h
  exact .inr (.inr ⟨h,h'⟩)
def Quz (lt:κ->κ->Bool){l:L_ (κ×α)}{k:κ}{v:α}(h:(l.map Prod.fst).Nodup):((YQ lt l k v).map Prod.fst).Nodup:=by
 unfold YQ;split
 ·rw[QlF];exact h
 rename_i hn;refine(((QiW lt l k v).map Prod.fst).nodup_iff).2 ?_;rw[GC,NI];refine⟨λO=>?_,h⟩;obtain⟨p,hp,e⟩:=Yt.1 O;exact QvU hn p hp e
end
def QO {κ α:Type}(e:κ->V)(f:α->V)(l:L_ (κ×α)):L_ (V×V):=l.map λp=>(e p.1,f p.2)
structure Bz (P:Program) (K:TypeId) {κ:Type} (e:κ->V) (val:κ->Value):Prop where
 d:∃D,P.underlying K=X D/\∀k,MapKept.IsKey D (val k)
 inv:∀I w x k,XG I w x (e k)->x=val k
 dat:∀I w k,XG I w (val k) (e k)
 edat:∀k,(e k).dat=t_
 inj:∀a b,val a=val b->a=b
 einj:∀a b,e a=e b->a=b
def QzG (P:Program)(K:TypeId)(h:IntKind):Bool:=match P.underlying K with|some (.int k)=>decide (k=h)|_=>f_
def Bz.int {P:Program}{K:TypeId}{O:IntKind}(h:QzG P K O=t_):Bz P K (V.i O) (Value.int O):=by
 unfold QzG at h;split at h
 ·rename_i k hk;have:=Xe h;subst this;refine⟨⟨_,hk,λ_=>rfl⟩,λI w x k h=>by cases h;rfl,λI w k=>.i _ _,λ_=>rfl,λa b h=>by cases h;rfl,λa b h=>by cases h;rfl⟩
 cases h
def Bz.str {P:Program}{K:TypeId}(h:Qg6 P K=t_):Bz P K V.s Value.string:=
 ⟨⟨_,Qc6 h,λ_=>trivial⟩,λI w x k h=>by cases h;rfl,λI w k=>.s _,λ_=>rfl,λa b h=>by cases h;rfl,λa b h=>by cases h;rfl⟩
section
variable {P:Program}{K:TypeId}{κ α:Type}[DecidableEq κ]{e:κ->V}{val:κ->Value}{f:α->V}{I:Nat->Prop}{w:World}{B:Xh}{l:L_ (κ×α)}
def Vr (he:∀a b,e a=e b->a=b):((QO e f l).map Prod.fst).Nodup↔(l.map Prod.fst).Nodup:=by
 have:(QO e f l).map Prod.fst=(l.map Prod.fst).map e:=by simp[QO]
 rw[this];constructor
 ·intro h;exact(QaY.1 h).imp λO e'=>O (by rw[e'])
 intro h;exact QaY.2 (h.imp λO e'=>O (he _ _ e'))
def EA.find (hk:Bz P K e val){D:TypeDesc}(hD:P.underlying K=X D)(h:EA I w B (QO e f l))(k:κ):∃es O,w.heap[B.b]? = X (.map es O)/\MapKept.Stamped es O/\(l.map Prod.fst).Nodup/\
  es.size=l.length/\MapKept.IsKey D (val k)/\
  ((Xg l k=n_/\Instr.findNow D (val k) es.toList 0=X n_/\∀x∈es.toList,x.key≠val k)\/
   ∃j x v,Xg l k=X v/\Instr.findNow D (val k) es.toList 0=X (X (j,x.val))/\es[j]? = X x/\x.key=val k/\XG I w x.val (f v)):=by
 obtain⟨es,O,h1,h2,h3,h4,h5,h6⟩:=h;obtain⟨D',hD',hK⟩:=hk.d;rw[hD]at hD';cases hD';have hn:=(Vr hk.einj).1 h3;have hrow:∀x∈es.toList,∃a y,(a,y)∈l/\x.key=val a/\XG I w x.val (f y):=λx hx=>by
  obtain⟨p,hp,a1,a2⟩:=h5 x hx;obtain⟨q,hq,rfl⟩:=Yt.1 hp;exact⟨q.1,q.2,hq,hk.inv _ _ _ _ a1,a2⟩
 have hks:∀x∈es.toList,MapKept.IsKey D x.key:=λx hx=>by obtain⟨a,y,_,e1,_⟩:=hrow x hx;rw[e1];exact hK a
 refine⟨es,O,h1,h2,hn,by rw[h4,QO,Dx],hK k,?_⟩;rcases MapKept.findNow_spec (hK k) es.toList 0 hks with⟨g1,g2⟩|⟨j,x,g1,g2,g3⟩
 ·refine .inl ⟨?_,g1,g2⟩;cases hg:Xg l k with
  |none=>rfl|some v=>
   obtain⟨x,hx,a1,_⟩:=h6 (e k,f v) (Yt.2 ⟨(k,v),Qhf hg,rfl⟩);exact absurd (hk.inv _ _ _ _ a1) (g2 x hx)
 obtain⟨a,y,hm,e1,e2⟩:=hrow x (XB g2);have:a=k:=hk.inj _ _ (by rw[<-e1,g3]);subst this;exact .inr ⟨j,x,y,QfJ hn hm,by simpa using g1,by simpa using g2,g3,e2⟩
end
def Rz (P:Program)(T:TypeId):O_ (TypeId×TypeId):=match P.underlying T with|some (.map k e)=>X (k,e)|_=>n_
def Hv {P:Program}{T k e:TypeId}(h:Rz P T=X (k,e)):P.underlying T=X (.map k e):=by
 unfold Rz at h;split at h
 ·rename_i O;cases h;exact O
 cases h
section
variable {P:Program}{C:XC}{Y:St}{o:Oper}
def Qf.makeMap {T d:Nat}(ho:o.op=.makeMap T n_)(O:o.dst=X d)(h:B_ d C)(hf:look Y.hp d=n_):Qf P C o Y ((Y.set d (.map [])).put d (.map d)):=by
 refine Qf.val λZ a w hr=>?_;refine⟨.map (X w.heap.size),w.alloc (.map #[] 0),ext Z d ⟨w.heap.size,0,0,[],0⟩,?_,?_⟩
 ·simp[execOp,ho,Instr.makeMap]
 rw[O];refine(hr.alloc (cap:=0) (z:=0) hf (C.slot h) (ob:=.map []) (obj:=.map #[] 0) ⟨#[],0,heap_alloc_new w _,MapKept.stamped_empty 0,by simp,rfl,by simp,by simp⟩).put (XT h) ?_;exact .map d ⟨w.heap.size,0,0,[],0⟩ (XQ _ _ _)
def MB (P:Program)(T:TypeId)(z:V):Prop:=∃i x,P.info? T=X i/\i.zero=X x/\∀I w,XG I w x z
def Qf.lookup {T d b K E:Nat}{x y:Operand}{κ α:Type}[DecidableEq κ]{e:κ->V}{val:κ->Value}{f:α->V}{l:L_ (κ×α)}{k:κ}{z:α}{v:V}(ho:o.op=.lookup T x y f_)(hd:o.dst=X d)
  (hn:B_ d C) (hx:Y.opd x=X (.map b)) (hb:look Y.hp b=X (.map (QO e f l))) (hy:Y.opd y=X (e k)) (hT:Rz P T=X (K,E)) (hk:Bz P K e val) (hz:MB P E (f z))
  (hv:f ((Xg l k).getD z)=v):Qf P C o Y (Y.put d v):=by
 refine Qf.same hd hn λZ a w hr=>?_;subst hv;obtain⟨B,hB,he⟩:=(hr.opd hx).map_inv;have O:a.eval y=val k:=hk.inv _ _ _ _ ((hr.opd hy).toDat (hk.edat k));obtain⟨D,h,_⟩:=hk.d;obtain⟨es,clock,h1,h2,h3,h4,h5,h6⟩:=EA.find hk h (hr.block hB hb) k;obtain⟨i,zx,hi,hzx,hzd⟩:=hz;rcases h6 with⟨g1,g2,_⟩|⟨j,xx,v,g1,g2,g3,g4,g5⟩
 ·refine⟨zx,?_,by rw[g1];exact .dat (hzd _ _)⟩;simp[execOp,ho,he,O,Instr.lookup,run_underlying (Hv hT),MapKept.run_getObj_map h1,MapKept.run_checkKey h h5,MapKept.run_findKey h g2,zeroValue,typeInfo,hi,hzx]
 refine⟨xx.val,?_,by rw[g1];exact .dat g5⟩;simp[execOp,ho,he,O,Instr.lookup,run_underlying (Hv hT),MapKept.run_getObj_map h1,MapKept.run_checkKey h h5,MapKept.run_findKey h g2]
def Qf.lookupOk {T d b K E:Nat}{x y:Operand}{κ α:Type}[DecidableEq κ]{e:κ->V}{val:κ->Value}{f:α->V}{l:L_ (κ×α)}{k:κ}{z:α}{v:V}{t:Bool}(ho:o.op=.lookup T x y t_)(hd:o.dst=X d)
  (hn:B_ d C) (O:Y.opd x=X (.map b)) (hb:look Y.hp b=X (.map (QO e f l))) (hy:Y.opd y=X (e k)) (hT:Rz P T=X (K,E)) (hk:Bz P K e val) (hz:MB P E (f z))
  (hv:f ((Xg l k).getD z)=v) (ht:(Xg l k).isSome=t):Qf P C o Y (Y.put d (.tup [v,.b t])):=by
 refine Qf.same hd hn λZ a w hr=>?_;subst hv ht;obtain⟨B,hB,he⟩:=(hr.opd O).map_inv;have hyv:a.eval y=val k:=hk.inv _ _ _ _ ((hr.opd hy).toDat (hk.edat k));obtain⟨D,h,_⟩:=hk.d;obtain⟨es,clock,h1,h2,h3,h4,h5,h6⟩:=EA.find hk h (hr.block hB hb) k;obtain⟨i,zx,hi,hzx,hzd⟩:=hz;have two:∀{x:Value} {u:V} {t:Bool},XG (Xp C Z w) w x u->QW Z (Xp C Z w) w (.tuple #[x,.bool t]) (.tup [u,.b t]):=λ{x u t} h=>
  .dat (.tup _ _ rfl λj x' u' O hu=>by
   match j with|0=>simp at O hu;subst O;subst hu;exact h|1=>simp at O hu;subst O;subst hu;exact .b _|j+2=>simp at O)
 rcases h6 with⟨g1,g2,_⟩|⟨j,xx,v,g1,g2,g3,g4,g5⟩
 ·refine⟨.tuple #[zx,.bool f_],?_,by rw[g1];exact two (hzd _ _)⟩;simp[execOp,ho,he,hyv,Instr.lookup,run_underlying (Hv hT),MapKept.run_getObj_map h1,MapKept.run_checkKey h h5,MapKept.run_findKey h g2,zeroValue,typeInfo,hi,hzx]
 refine⟨.tuple #[xx.val,.bool t_],?_,by rw[g1];exact two g5⟩;simp[execOp,ho,he,hyv,Instr.lookup,run_underlying (Hv hT),MapKept.run_getObj_map h1,MapKept.run_checkKey h h5,MapKept.run_findKey h g2]
def Uh {w:World}{r k:Nat}(o:Obj)(h:k≠r):(w.heap.setIfInBounds r o)[k]? = w.heap[k]? := by
 rw[QfB,if_neg (Ne.symm h)]
def Qf.mapUpdateI {T b K E:Nat}{x y u:Operand}{κ α:Type}[DecidableEq κ]{e:κ->V}{val:κ->Value}{f:α->V}{l:L_ (κ×α)}{k:κ}{v:α}(lt:κ->κ->Bool)(ho:o.op=.mapUpdate T x y u\/o.op=.insert T x y u)(hd:o.dst=n_)
  (O:Y.opd x=X (.map b)) (hb:look Y.hp b=X (.map (QO e f l))) (hy:Y.opd y=X (e k)) (hu:Y.opd u=X (f v)) (hT:Rz P T=X (K,E)) (hk:Bz P K e val) (hv:(f v).dat=t_):
  Qf P C o Y (Y.set b (.map (QO e f (YQ lt l k v)))):=by
 refine Qf.skp λZ a w hr=>?_;obtain⟨B,hB,he⟩:=(hr.opd O).map_inv;have hyv:a.eval y=val k:=hk.inv _ _ _ _ ((hr.opd hy).toDat (hk.edat k));have huv:=(hr.opd hu).toDat hv;obtain⟨D,hD,_⟩:=hk.d;have hrep:=hr.block hB hb;obtain⟨es,clock,h1,h2,h3,h4,h5,h6⟩:=EA.find hk hD hrep k;obtain⟨es',clock',h1',_,_,_,r5,r6⟩:=hrep;rw[h1]at h1';cases h1';have hlt:B.b<w.heap.size:=(hr.lt b B _ hB B.self).1;have write:∀(es2:Array MapEntry) (h:Nat) (l2:L_ (κ×α)),MapKept.Stamped es2 h->(l2.map Prod.fst).Nodup->es2.size=l2.length->
   (∀x∈es2.toList,∃p∈l2,x.key=val p.1/\XG (Xp C Z w) w x.val (f p.2))->(∀p∈l2,∃x∈es2.toList,x.key=val p.1/\XG (Xp C Z w) w x.val (f p.2))->
   RR C Z (Y.set b (.map (QO e f l2))) a { w with heap:=w.heap.setIfInBounds B.b (.map es2 h) }:=by
  intro es2 h l2 a1 a2 a3 a4 a5;have hI:∀k,Xp C Z w k->Xp C Z { w with heap:=w.heap.setIfInBounds B.b (.map es2 h) } k/\(w.heap.setIfInBounds B.b (.map es2 h))[k]? = w.heap[k]? := λk hk'=>
   ⟨⟨by simpa using hk'.1,hk'.2⟩,Uh _ λe=>hk'.2.2 b B hB (.inl e)⟩
  refine hr.write hB rfl rfl rfl (by simp) (λk hne=>Uh _ hne) ⟨es2,h,by simp[hlt],a1,(Vr hk.einj).2 a2,by rw[a3,QO,Dx],λx O=>?_,λp hp=>?_⟩
  ·obtain⟨p,hp,e1,e2⟩:=a4 x O;exact⟨_,Yt.2 ⟨p,hp,rfl⟩,by rw[e1];exact hk.dat _ _ _,e2.mono hI⟩
  obtain⟨q,hq,rfl⟩:=Yt.1 hp;obtain⟨x,O,e1,e2⟩:=a5 q hq;exact⟨x,O,by rw[e1];exact hk.dat _ _ _,e2.mono hI⟩
 have old1:∀x∈es.toList,∃p∈l,x.key=val p.1/\XG (Xp C Z w) w x.val (f p.2):=λx O=>by
  obtain⟨p,hp,a1,a2⟩:=r5 x O;obtain⟨q,hq,rfl⟩:=Yt.1 hp;exact⟨q,hq,hk.inv _ _ _ _ a1,a2⟩
 have old2:∀p∈l,∃x∈es.toList,x.key=val p.1/\XG (Xp C Z w) w x.val (f p.2):=λp hp=>by
  obtain⟨x,O,a1,a2⟩:=r6 _ (Yt.2 ⟨p,hp,rfl⟩);exact⟨x,O,hk.inv _ _ _ _ a1,a2⟩
 rcases h6 with⟨g1,g2,g3⟩|⟨j,xx,v0,g1,g2,g3,g4,g5⟩
 ·refine⟨{ w with heap:=w.heap.setIfInBounds B.b (.map (es.push { key:=val k,val:=a.eval u,born:=clock }) (clock+1)) },Z,?_,?_⟩
  ·rcases ho with ho|ho<;>simp[execOp,ho,he,hyv,Instr.mapUpdate,run_underlying (Hv hT),MapKept.run_getObj_map h1,MapKept.run_checkKey hD h5,MapKept.run_findKey hD g2,MapKept.run_setObj_map _ h1]
  rw[hd];have hms:YQ lt l k v=Nl lt l k v:=by unfold YQ;rw[g1]
  have hmem:∀p,p∈Nl lt l k v↔p=(k,v)\/p∈l:=λp=>by rw[(QiW lt l k v).mem_iff,XP]
  rw[hms];refine write _ _ _ (MapKept.stamped_push h2 g3) (by rw[<-hms];exact Quz lt h3) (by rw[(QiW lt l k v).length_eq];simp[h4]) (λx O=>?_) (λp hp=>?_)
  ·simp only[Array.toList_push,YT,LA]at O;rcases O with O|rfl
   ·obtain⟨p,hp,e1,e2⟩:=old1 x O;exact⟨p,(hmem p).2 (.inr hp),e1,e2⟩
   exact⟨(k,v),(hmem _).2 (.inl rfl),rfl,huv⟩
  rcases(hmem p).1 hp with rfl|hp
  ·exact⟨{ key:=val k,val:=a.eval u,born:=clock },by simp,rfl,huv⟩
  obtain⟨x,O,e1,e2⟩:=old2 p hp;exact⟨x,by simp only[Array.toList_push,YT];exact .inl O,e1,e2⟩
 refine⟨{ w with heap:=w.heap.setIfInBounds B.b (.map (es.modify j λx=>{ x with key:=val k,val:=a.eval u }) clock) },Z,?_,?_⟩
 ·rcases ho with ho|ho<;>simp[execOp,ho,he,hyv,Instr.mapUpdate,run_underlying (Hv hT),MapKept.run_getObj_map h1,MapKept.run_checkKey hD h5,MapKept.run_findKey hD g2,MapKept.run_setObj_map _ h1,g3,g4,MapKept.run_keyThatStays h5]
 rw[hd];have hms:YQ lt l k v=OH l k v:=by unfold YQ;rw[g1]
 have hmem:=Qxp h3 ⟨v0,Qhf g1⟩ (v:=v);have hlen:(OH l k v).length=l.length:=by have:=congrArg List.length (QlF l k v);simpa using this
 have hjlt:j<es.size:=(Cg.1 g3).1;have hmod:∀i:Nat,(es.modify j λx=>{ x with key:=val k,val:=a.eval u })[i]? = if i=j then X { xx with key:=val k,val:=a.eval u }else es[i]? := λi=>by
  rw[Qsj];by_cases hij:j=i
  ·subst hij;simp[g3]
  rw[if_neg hij,if_neg (Ne.symm hij)]
 have hkeyj:∀i x,es[i]? = X x->x.key=val k->i=j:=λi x O hxk=>by
  have hnd:=h2.2.2;have i1:(es.toList.map (·.key))[i]? = X (val k):=by simp[Yj,O,hxk]
  have i2:(es.toList.map (·.key))[j]? = X (val k):=by simp[Yj,g3,g4]
  exact(List.getElem?_inj (by simpa using (Cg.1 O).1) hnd).1 (i1.trans i2.symm)
 rw[hms];refine write _ _ _ (MapKept.stamped_modify h2 _ _ (λ_ _=>rfl) λx _ O=>by rw[g3]at O;cases O;exact g4.symm) (by rw[QlF];exact h3) (by rw[Array.size_modify,h4,hlen]) (λx O=>?_) (λp hp=>?_)
 ·obtain⟨i,hi⟩:=NH.1 O;rw[QfC,hmod]at hi;split at hi
  ·cases hi;exact⟨(k,v),(hmem _).2 (.inl rfl),rfl,huv⟩
  rename_i hne;obtain⟨p,hp,e1,e2⟩:=old1 x (by rw[NH];exact⟨i,by simpa using hi⟩);exact⟨p,(hmem p).2 (.inr ⟨hp,λe=>hne (hkeyj i x hi (by rw[e1,e]))⟩),e1,e2⟩
 rcases(hmem p).1 hp with rfl|⟨hp,hne⟩
 ·exact⟨_,NH.2 ⟨j,by rw[QfC,hmod,if_pos rfl]⟩,rfl,huv⟩
 obtain⟨x,O,e1,e2⟩:=old2 p hp;obtain⟨i,hi⟩:=NH.1 O;refine⟨x,NH.2 ⟨i,?_⟩,e1,e2⟩;have hij:i≠j:=λe=>by
  subst e;rw[QfC,g3]at hi;cases hi;exact hne (hk.inj _ _ (by rw[<-e1,g4]))
 rw[QfC,hmod,if_neg hij,<-QfC];exact hi
def Qf.mapUpdate {T b K E:Nat}{x y u:Operand}{κ α:Type}[DecidableEq κ]{e:κ->V}{val:κ->Value}{f:α->V}{l:L_ (κ×α)}{k:κ}{v:α}(lt:κ->κ->Bool)(ho:o.op=.mapUpdate T x y u)(hd:o.dst=n_)
  (hx:Y.opd x=X (.map b)) (O:look Y.hp b=X (.map (QO e f l))) (hy:Y.opd y=X (e k)) (hu:Y.opd u=X (f v)) (h:Rz P T=X (K,E)) (hk:Bz P K e val) (hv:(f v).dat=t_):
  Qf P C o Y (Y.set b (.map (QO e f (YQ lt l k v)))):=
 Qf.mapUpdateI lt (.inl ho) hd hx O hy hu h hk hv
def Qf.insert {T b K E:Nat}{x y u:Operand}{κ α:Type}[DecidableEq κ]{e:κ->V}{val:κ->Value}{f:α->V}{l:L_ (κ×α)}{k:κ}{v:α}(lt:κ->κ->Bool)(ho:o.op=.insert T x y u)(hd:o.dst=n_)
  (hx:Y.opd x=X (.map b)) (O:look Y.hp b=X (.map (QO e f l))) (hy:Y.opd y=X (e k)) (hu:Y.opd u=X (f v)) (h:Rz P T=X (K,E)) (hk:Bz P K e val) (hv:(f v).dat=t_):
  Qf P C o Y (Y.set b (.map (QO e f (YQ lt l k v)))):=
 Qf.mapUpdateI lt (.inr ho) hd hx O hy hu h hk hv
end
inductive GL (Y:St) (dflt:Nat):Option Operand->Nat->Prop where
 |no:GL Y dflt n_ dflt
 |val {x:Operand} {k:IntKind} {n:Int} {l:Nat}:Y.opd x=X (.i k n)->0<=n->n.toNat=l->GL Y dflt (X x) l
section
variable {P:Program}{C:XC}{Y:St}{o:Oper}{Z:Nat->O_ Xh}{a:Act}{w:World}
def NK {k:IntKind}{i:Int}{y:Nat}{h:BoundsCode}(O:0<=i)(h1:i.toNat<=y):(Instr.sliceBound (.int k i) y h).run P w=.ok i.toNat w:=by
 have:0<=i/\i<=(y:Int):=⟨O,by omega⟩;simp[Instr.sliceBound,asIntOf,this]
def Pu (hr:RR C Z Y a w){lo hi:O_ Operand}{l h O cap:Nat}{b:Bool}(hl:GL Y 0 lo l)(hh:GL Y O hi h)(h1:l<=h)(h2:h<=cap):
  (Instr.sliceBounds b O cap (lo.map a.eval) (hi.map a.eval) n_).run P w=.ok (l,h,cap) w:=by
 cases hl with
 |no=>
  cases hh with|no=>simp[Instr.sliceBounds]|val e1 e2 e3=>subst e3;simp[Instr.sliceBounds,(hr.opd e1).i_inv,NK e2 h2]
 |val e1 e2 e3=>
  subst e3;cases hh with|no=>simp[Instr.sliceBounds,(hr.opd e1).i_inv,NK e2 h1]|val f1 f2 f3=>subst f3;simp[Instr.sliceBounds,(hr.opd e1).i_inv,NK e2 h1,(hr.opd f1).i_inv,NK f2 h2]
def Qf.sliceD {T d l h e z by_:Nat}{x:Operand}{lo hi:O_ Operand}{rows us:L_ (L_ V)}(ho:o.op=.slice T x lo hi n_)(hd:o.dst=X d)(hn:B_ d C)(hx:Y.opd x=X (.sl z rows))
  (hT:YD P T=X (e,z,by_)) (hl:GL Y 0 lo l) (hh:GL Y rows.length hi h) (h1:l<=h) (h2:h<=rows.length) (hu:(rows.drop l).take (h-l)=us):Qf P C o Y (Y.put d (.sl z us)):=by
 refine Qf.same hd hn λZ a w hr=>?_;subst hu;obtain⟨hu,i,hi',hiz,_⟩:=KI hT;rcases(hr.opd hx).sl_inv with⟨a0,cap,he,rfl⟩|⟨b,off,cap,he,hI,hcap,hok,c,hc,O⟩
 ·have h0:h=0:=by simpa using h2
  subst h0;have l0:l=0:=by omega
  subst l0;refine⟨.slice (if cap=0 then a0 else a0.map (·.add (0*i.size))) 0 cap,?_,.dat (.sl0 _ _ _)⟩;have hh':GL Y 0 hi 0:=hh;simp[execOp,ho,he,Instr.sliceAt,Instr.slice,run_underlying hu,Pu hr hl hh' h1 (by simp:0<=cap),sizeOf,typeInfo,hi']
 refine⟨.slice (if cap=l then X ⟨b,off,n_⟩else X ((⟨b,off,n_⟩:Addr).add (l*i.size))) (h-l) (cap-l),?_,.dat ?_⟩
 ·simp only[execOp,ho,he,Instr.sliceAt,Instr.slice,run_underlying hu,Qbj,Pu hr hl hh h1 (by omega:h<=cap),sizeOf,typeInfo,hi',Xl,Xx,run_program,Xo,Gq,Qbj]
 by_cases hlh:h-l=0
 ·rw[hlh];simp only[List.take_zero];exact .sl0 _ _ _
 have hcl:cap≠l:=by omega
 rw[if_neg hcl,hiz,Addr.add_lit];refine .sl b (off+l*z) (h-l) (cap-l) z _ (λj=>c (l*z+j)) hI (by simp;omega) (by omega) (λr hr'=>hok r (QaX (FQ hr'))) (λj hj=>?_) (λk r hk j v hj=>?_)
 ·have hle:l*z+(h-l)*z<=rows.length*z:=by rw[<-Je];exact Jr _ (by omega)
  have:=hc (l*z+j) (by omega);rw[OA];exact this
 rw[Kd]at hk;split at hk
 ·rw[UQ]at hk;have:=O (l+k) r hk j v hj;rw[Je]at this;rw[<-OA];exact this
 cases hk
def RR.shrink (h:RR C Z Y a w){b z:Nat}{rs:L_ (L_ V)}(hb:look Y.hp b=X (.arr z rs))(n:Nat):RR C Z (Y.set b (.arr z (rs.take n))) a w:=by
 refine⟨h.os,h.tape,h.output,h.size,h.kept,h.inj,λo B hB=>?_,h.lt,h.new,h.stay.set hb,h.tmps,h.defers,h.frame,λo ob O=>?_⟩
 ·by_cases e:o=b
  ·subst e;exact⟨_,Y.look_set_same _ _⟩
  obtain⟨ob,h1⟩:=h.dom o B hB;exact⟨ob,by rw[Y.look_set_other _ (Ne.symm e)];exact h1⟩
 by_cases e:o=b
 ·subst e;rw[Y.look_set_same]at O;cases O;rcases h.heap o _ hb with⟨B,hB,h1,h2,h3,cs,E,h4,h5,h6⟩|⟨h1,h2⟩
  ·refine .inl ⟨B,hB,h1,by simp;omega,λr hr=>h3 r (FQ hr),cs,E,h4,h5,λi r hi=>?_⟩;rw[Kd]at hi;split at hi
   ·exact h6 i r hi
   cases hi
  exact .inr ⟨h1,by show rs.take n=[];rw[show rs=[]from h2,List.take_nil]⟩
 rw[Y.look_set_other _ (Ne.symm e)]at O;exact h.heap o ob O
def Qf.sliceO {T d b n h e z by_:Nat}{x:Operand}{lo hi:O_ Operand}{rs us:L_ (L_ V)}(ho:o.op=.slice T x lo hi n_)(hd:o.dst=X d)(hn:B_ d C)(hx:Y.opd x=X (.own b n))
  (hb:look Y.hp b=X (.arr z rs)) (hT:YD P T=X (e,z,by_)) (hl:GL Y 0 lo 0) (hh:GL Y n hi h) (h2:h<=n) (hu:rs.take h=us):Qf P C o Y ((Y.set b (.arr z us)).put d (.own b h)):=by
 refine Qf.val λZ a w hr=>?_;subst hu;obtain⟨hu,i,O,hiz,_⟩:=KI hT;have hs:=hr.shrink hb h;rcases(hr.opd hx).own_inv with⟨he,rfl⟩|⟨B,hB,hcap,he⟩
 ·have h0:h=0:=by omega
  subst h0;refine⟨.slice n_ 0 0,w,Z,?_,by rw[hd];exact hs.put (XT hn) (.own0 b)⟩;simp[execOp,ho,he,Instr.sliceAt,Instr.slice,run_underlying hu,Pu hr hl hh (by omega) (by omega:0<=0),sizeOf,typeInfo,O]
 refine⟨.slice (X ⟨B.b,B.off,n_⟩) h B.cap,w,Z,?_,by rw[hd];exact hs.put (XT hn) (.own b h B hB (by omega))⟩;simp only[execOp,ho,he,Instr.sliceAt,Instr.slice,run_underlying hu,Pu hr hl hh (by omega) (by omega:h<=B.cap),sizeOf,typeInfo,O,Xl,Xx,run_program,Xo,Gq,Qbj,Ij,Addr.add_lit,My,ite_self,Nat.sub_zero]
def Qke (P:Program)(T:TypeId):Bool:=match P.underlying T with|some (.interface _)=>f_|some _=>t_|none=>f_
def QqT {T:TypeId}(h:Qke P T=t_):∃D,P.underlying T=X D/\∀m,D≠.interface m:=by
 unfold Qke at h;split at h
 ·cases h
 ·rename_i D O he;exact⟨D,he,λm e=>O m (by rw[e])⟩
 cases h
def Qf.makeInterface {T d:Nat}{x:Operand}{v:V}(ho:o.op=.makeInterface T x)(hd:o.dst=X d)(hn:B_ d C)(hx:Y.opd x=X v)(hT:Qke P T=t_):Qf P C o Y (Y.put d (.ifc T v)):=by
 refine Qf.same hd hn λZ a w hr=>⟨.iface T (a.eval x),?_,.ifc T _ _ (hr.opd hx)⟩;obtain⟨D,O,h⟩:=QqT hT;have:(Instr.makeInterface T (a.eval x)).run P w=.ok (.iface T (a.eval x)) w:=by
  simp only[Instr.makeInterface,Xl,run_underlying O,Xo];cases D<;>first|rfl|exact absurd rfl (h _)
 simp only[execOp,ho,Xl,this,Xo,Xx]
def Qf.typeAssert {T S d:Nat}{x:Operand}{v:V}(ho:o.op=.typeAssert x S T f_)(hd:o.dst=X d)(hn:B_ d C)(hx:Y.opd x=X (.ifc T v))(hT:Qke P T=t_):Qf P C o Y (Y.put d v):=by
 refine Qf.same hd hn λZ a w hr=>?_;obtain⟨y,he,hy⟩:=(hr.opd hx).ifc_inv;refine⟨y,?_,hy⟩;obtain⟨D,O,h⟩:=QqT hT;have:(Instr.typeAssert (.iface T y) S T f_).run P w=.ok y w:=by
  simp only[Instr.typeAssert,Xl,run_underlying O,Xo];cases D<;>first|simp|exact absurd rfl (h _)
 simp only[execOp,ho,he,Xl,this,Xo,Xx]
def Qf.nilCheckL {d b i k:Nat}{x:Operand}(ho:o.op=.nilCheck x)(hd:o.dst=X d)(hn:B_ d C)(O:Y.opd x=X (.loc b i k)):Qf P C o Y (Y.put d (.loc b i k)):=by
 refine Qf.same hd hn λZ a w h=>⟨a.eval x,?_,h.opd O⟩;obtain⟨B,hB,he⟩:=(h.opd O).loc_inv;simp[execOp,ho,he]
def Qf.makeFunc {d:Nat}{fn:Fn}{first h:Array Operand}{vs us:L_ V}(ho:o.op=.makeFunc fn first h)(hd:o.dst=X d)(hn:B_ d C)(h1:Y.opsV first.toList=X vs)(h2:Y.opsV h.toList=X us):
  Qf P C o Y (Y.put d (.clo fn vs us)):=by
 refine Qf.same hd hn λZ a w hr=>?_;obtain⟨a1,a2⟩:=hr.opsV _ _ h1;obtain⟨b1,b2⟩:=hr.opsV _ _ h2;refine⟨.func fn (first.map a.eval) (h.map a.eval),by simp[execOp,ho,Instr.makeFunc],.clo fn _ _ _ _ (by simpa using a1) (by simpa using b1) (λj x v O hv=>?_) λj x v O hv=>?_⟩
 ·rw[Array.getElem?_map,Yo]at O;obtain⟨y,hy,rfl⟩:=O;exact a2 j y v (by simpa using hy) hv
 rw[Array.getElem?_map,Yo]at O;obtain⟨y,hy,rfl⟩:=O;exact b2 j y v (by simpa using hy) hv
end
def Qhg {κ:Type}(e:κ->V)(l:L_ (κ×L_ (L_ V))):L_ (V×L_ (L_ V)):=l.map λp=>(e p.1,p.2)
section
variable {P:Program}{K:TypeId}{κ:Type}[DecidableEq κ]{e:κ->V}{val:κ->Value}{I:Nat->Prop}{w:World}{B:Xh}{l:L_ (κ×L_ (L_ V))}{z:Nat}{out:O_ V}
def QnN (he:∀a b,e a=e b->a=b):((Qhg e l).map Prod.fst).Nodup↔(l.map Prod.fst).Nodup:=by
 have:(Qhg e l).map Prod.fst=(l.map Prod.fst).map e:=by simp[Qhg]
 rw[this];constructor
 ·intro h;exact(QaY.1 h).imp λO e'=>O (by rw[e'])
 intro h;exact QaY.2 (h.imp λO e'=>O (he _ _ e'))
def Qsp (I:Nat->Prop)(w:World)(z:Nat)(e:κ->V)(val:κ->Value)(out:O_ V)(l:L_ (κ×L_ (L_ V)))(x:MapEntry)(E:O_ Xh):Prop:=
 ∃q∈l,x.key=val q.1/\((∃F,E=X F/\F.more=[]/\out≠X (e q.1)/\YW I w F z q.2/\x.val=.slice (X ⟨F.b,F.off,n_⟩) q.2.length F.cap)\/(E=n_/\out=X (e q.1)))
end
section
variable {P:Program}{C:XC}{Y:St}{o:Oper}{Z:Nat->O_ Xh}{a:Act}{w:World}{ops:Array Oper}{c:Code}{Q:Exit->St->Prop}
def RR.say' (h:RR C Z Y a w){b:Nat}{ob ob':Ob}(hb:look Y.hp b=X ob)(hs:∀B,Z b=X B->KH Z (Xp C Z w) w B ob->KH Z (Xp C Z w) w B ob')(hne:¬ob.Nil):RR C Z (Y.set b ob') a w:=by
 refine⟨h.os,h.tape,h.output,h.size,h.kept,h.inj,λo B hB=>?_,h.lt,h.new,h.stay.set hb,h.tmps,h.defers,h.frame,λo ob2 O=>?_⟩
 ·by_cases e:o=b
  ·subst e;exact⟨_,Y.look_set_same _ _⟩
  obtain⟨ob,h1⟩:=h.dom o B hB;exact⟨ob,by rw[Y.look_set_other _ (Ne.symm e)];exact h1⟩
 by_cases e:o=b
 ·subst e;rw[Y.look_set_same]at O;cases O;rcases h.heap o _ hb with⟨B,hB,hr⟩|⟨_,h2⟩
  ·exact .inl ⟨B,hB,hs B hB hr⟩
  exact absurd h2 hne
 rw[Y.look_set_other _ (Ne.symm e)]at O;exact h.heap o ob2 O
def Qxq (P:Program)(T:TypeId):Bool:=match P.info? T with
 |some i=>match i.zero with|some (.slice n_ 0 0)=>t_|_=>f_
 |none=>f_
def Qxr {T:TypeId}(h:Qxq P T=t_):∃i,P.info? T=X i/\i.zero=X (.slice n_ 0 0):=by
 unfold Qxq at h;split at h
 ·rename_i i O;split at h
  ·rename_i hz;exact⟨i,O,hz⟩
  cases h
 cases h
def MB.sl {T:TypeId}{z:Nat}(h:Qxq P T=t_):MB P T (.sl z []):=let ⟨i,h1,h2⟩:=Qxr h;⟨i,_,h1,h2,λ_ _=>.sl0 _ _ _⟩
def MB.one {T:TypeId}{v:Value}(hi:((P.info? T).bind (·.zero))=X v):MB P T (Fu v):=by
 obtain⟨i,h,O⟩:=Vq.1 hi;exact⟨i,v,h,O,λ_ _=>XG.const v⟩
end
section
variable {P:Program}{C:XC}{Y:St}{o:Oper}{a:Act}{w:World}
end
def QX.toData {P:Program}{f:FuncId}{us:L_ V}{z:Nat}{rows:L_ (L_ V)}(h:QX P f us [] (QnI z rows)):QX P f us [] (λv _=>v=.sl z rows):=by
 intro S Z w vals hi hG;refine(h S Z w vals hi hG).mono ?_;rintro e w' ⟨x,v,hs',φ',rfl,⟨o,rfl,hl⟩,ho⟩;have hφ:∀o B,Z o≠X B:=λo B hB=>by obtain⟨ob,h⟩:=(hi.dom o B hB).2.2;cases h
 have hA:∀k,Aft S φ' w w' k->Aft S (λ_=>n_) w w' k:=λk hk=>⟨hk.1,hk.2.1,λ_ _ h=>by cases h⟩;refine⟨x,.sl z rows,[],λ_=>n_,rfl,rfl,ho.os,ho.tape,ho.output,ho.size,ho.kept,λ_ _ _ _ _ h=>(by cases h),λ_ _ h=>(by cases h),λ_ _ _ h=>(by cases h),λ_ _ _ h=>(by cases h),⟨λ_ _ _ h=>(by cases h),λ_ _ _ _ h=>(by cases h)⟩,?_,λ_ _ h=>(by cases h)⟩;rcases ho.heap o _ hl with⟨B,hB,hrep⟩|⟨hn,hz⟩
 ·rcases ho.rep.own_inv with⟨rfl,h0⟩|⟨B',O,hcap,rfl⟩
  ·have:rows=[]:=HO.1 h0;subst this;exact .dat (.sl0 _ _ _)
  rw[hB]at O;cases O;obtain⟨rfl,hrl,hok,cs,E,h1,h2,h3⟩:=hrep;refine .dat (.sl B.b B.off rows.length B.cap B.z rows (λj=>cs.getD (B.off+j) undef) ⟨(ho.lt o B B.b hB B.self).1,λhlt=>?_,λ_ _ h=>by cases h⟩ rfl hcap hok (λj hj=>?_) (λi r hi j v hj=>?_))
  ·obtain⟨o',B',h4,_⟩:=(ho.lt o B B.b hB B.self).2 hlt;exact absurd h4 (hφ _ _)
  ·have hle2:rows.length*B.z<=B.cap*B.z:=Jr _ hcap;have:B.off+j<cs.size:=by omega
   simp[World.cell?,h1,Array.getD,this]
  obtain⟨y,hy,hd⟩:=h3 i r hi j v hj;have:cs.getD (B.off+(i*B.z+j)) undef=y:=by simp[QfA,hy]
  rw[this];exact hd.mono λk hk=>⟨hA k hk,rfl⟩
 replace hz:rows=[]:=hz;subst hz;rcases ho.rep.own_inv with⟨rfl,h0⟩|⟨B',O,hcap,rfl⟩
 ·exact .dat (.sl0 _ _ _)
 rw[hn]at O;cases O
structure Az where
 ag:List (Nat×Bool)
 sz:List (Nat×Nat)
 fo:List (Nat×List Nat)
 sp:List (Nat×List (Nat×Nat))
 es:List (Nat×(Nat×Nat×Nat))
 ar:List (Nat×(Nat×Nat))
 zv:List (Nat×List V)
 sb:List Nat
 bo:List Nat
 cc:List Nat
 en:List Nat
def foB (P:Program)(t:Nat):L_ Nat->Nat->Bool
 |[],_=>t_|off::r,i=>(match OD P t i with|some k=>Nat.beq k off|none=>f_)&&foB P t r (i+1)
def Az.okB (P:Program)(T:Az):Bool:=
 T.ag.all (λp=>AW P p.1==X p.2)&&T.sz.all (λp=>CV P p.1==X p.2)&&T.fo.all (λp=>foB P p.1 p.2 0)&&T.sp.all (λp=>Qg7 P p.1==X p.2) &&
 T.es.all (λp=>YD P p.1==X p.2)&&T.ar.all (λp=>QeF P p.1==X p.2)&&T.sb.all (Qg6 P)&&T.bo.all (QnJ P)&&T.cc.all (Qke P)&&T.en.all (QfG P)
structure Ek (P:Program) (T:Az):Prop where
 ag:∀{t b},look T.ag t=X b->AW P t=X b
 sz:∀{t b},look T.sz t=X b->CV P t=X b
 fo:∀{t l},look T.fo t=X l->∀{i:Nat} {k:Nat},l[i]? = X k->OD P t i=X k
 sp:∀{t b},look T.sp t=X b->Qg7 P t=X b
 es:∀{t b},look T.es t=X b->YD P t=X b
 ar:∀{t b},look T.ar t=X b->QeF P t=X b
 zv:∀{t b},look T.zv t=X b->XY P t=X b
 sb:∀{t},XX T.sb t=t_->Qg6 P t=t_
 bo:∀{t},XX T.bo t=t_->QnJ P t=t_
 cc:∀{t},XX T.cc t=t_->Qke P t=t_
 en:∀{t},XX T.en t=t_->QfG P t=t_
def QyS {P:Program}{t:Nat}:∀{l:L_ Nat} {j:Nat},foB P t l j=t_->∀{i k:Nat},l[i]? = X k->OD P t (j+i)=X k:=by
 intro l
 induction l with
 |nil=>intro j _ i k h;simp at h|cons off r ih=>
  intro j h i k O;rw[foB,QN]at h;cases i with
  |zero=>
   simp at O;subst O;have:=h.1;split at this
   ·rename_i k' hk';rw[My,hk',Yp this]
   cases this
  |succ i=>simp at O;have:=ih h.2 O;rwa[show j+(i+1)=j+1+i by omega]
def Az.ok {P:Program}{T:Az}(h:T.okB P=t_)(hz:∀p∈T.zv,XY P p.1=X p.2):Ek P T:=by
 simp only[Az.okB,QN,XS,beq_iff_eq]at h;obtain⟨⟨⟨⟨⟨⟨⟨⟨⟨h1,h2⟩,h3⟩,h4⟩,h5⟩,h6⟩,h7⟩,h8⟩,h9⟩,O⟩:=h;exact⟨λe=>h1 _ (JX e),λe=>h2 _ (JX e),λe i k hk=>by have:=QyS (h3 _ (JX e)) hk;rwa[Gp]at this,λe=>h4 _ (JX e),
  λe=>h5 _ (JX e),λe=>h6 _ (JX e),λe=>hz _ (JX e),λe=>h7 _ (OF.1 e),λe=>h8 _ (OF.1 e),λe=>h9 _ (OF.1 e),λe=>O _ (OF.1 e)⟩
inductive Mode where
 |d
 |n (z:Nat)
 |o (us:List (List V))
 |f (n:Nat)
 |t (b:Nat)
inductive Dy where
 |no
 |row (r:List V)
 |ix
 |rows (rs:List (List V))
 |ln (n:Nat)
 |num (r:Int)
 |bd (ms:List (Option Nat))
 |c (g:Bool) (ms:List Mode) (r:V)
 |co (g:Bool) (ms:List Mode) (z:Nat) (rows:List (List V)) (m:Nat)
 |cd (g:Bool) (ms:List Mode) (z:Nat) (rows:List (List V)) (m:Nat)
 |any (v:V) (ob:Option Ob)
structure Rs where
 v:V
 ob:Option Ob
 Z:Option Prop
def Rs.holds (r:Rs):Prop:=match r.Z with|none=>True|some p=>p
def evs (f:Operand->O_ V):L_ Operand->O_ (L_ V)
 |[]=>X []|x::r=>match f x with
  |some v=>match evs f r with|some vs=>X (v::vs)|none=>n_
  |none=>n_
def evp (f:Operand->O_ V):L_ (Nat×Operand)->O_ S_
 |[]=>X []|(i,x)::r=>match f x with
  |some v=>match evp f r with|some vs=>X ((i,v)::vs)|none=>n_
  |none=>n_
def QuA (hp:Nat->O_ Ob)(g:Bool)(m:Mode)(v:V):O_ (V×O_ Prop):=match m with
 |.d=>bif v.datA then X (v,n_)else n_|.n z=>match v with|.lit (.slice n_ 0 0)=>X (.sl z [],n_)|_=>n_
 |.o us=>match v with
  |.own b n=>match hp b with|some (.arr z rs)=>bif g then X (.sl z us,X (n<=rs.length/\rs.take n=us))else n_|_=>n_
  |_=>n_
 |.f _=>n_|.t b=>match v with
  |.lit x=>match hp b with|some (.nst y u)=>bif g then X (u,X (x=y))else n_|_=>n_
  |_=>n_
def QBq (Z:O_ Prop)(p:Prop):Prop:=match Z with|none=>p|some q=>q/\p
def Qgk (hp:Nat->O_ Ob)(g:Bool):L_ Mode->L_ V->O_ (L_ V×(Prop->Prop))
 |[],[]=>X ([],id)|m::ms,v::vs=>match QuA hp g m v with
  |some (u,Z)=>match Qgk hp g ms vs with|some (us,k)=>X (u::us,λp=>QBq Z (k p))|none=>n_
  |none=>n_
 |_,_=>n_
def ikB : IntKind->IntKind->Bool
 |.i8,.i8 | .i16,.i16 | .i32,.i32 | .i64,.i64 | .u8,.u8 | .u16,.u16 | .u32,.u32 | .u64,.u64=>t_|_,_=>f_
def Qsq {a b:IntKind}(h:ikB a b=t_):a=b:=by cases a<;>cases b<;>first|rfl|cases h
def Qxs (T:Az)(op:BinOp)(h:TypeId):V->V->O_ Rs
 |.i k m,.i O n=>bif ikB k O then match op with
  |.quo=>X ⟨.i k (k.wrap (m.tdiv n)),n_,X (n≠0)⟩|.rem=>X ⟨.i k (m.tmod n),n_,X (n≠0)⟩|op=>match Quw op k m n with|some v=>X ⟨v,n_,n_⟩|none=>n_
  else n_
 |.b m,.b n=>bif XX T.bo h then match op with|.eql=>X ⟨.b (m==n),n_,n_⟩|.neq=>X ⟨.b (m != n),n_,n_⟩|_=>n_
  else n_
 |.s m,.s n=>match op with|.eql=>X ⟨.b (KT m n),n_,n_⟩|.neq=>X ⟨.b (!KT m n),n_,n_⟩|_=>n_
 |_,_=>n_
def unV (op:UnOp):V->O_ Rs
 |.b t=>match op with|.not=>X ⟨.b (!t),n_,n_⟩|_=>n_
 |.i k m=>match op with|.neg=>X ⟨.i k (k.wrap (0-m)),n_,n_⟩|_=>n_
 |_=>n_
def QiX (T:Az)(O:TypeId)(h:L_ V)(off:Nat)(Z:O_ Prop):O_ Rs:=
 match look T.ag O with
 |some true=>match look T.sz O with|some n=>bif Nat.ble (off+n) h.length then X ⟨.agg ((h.drop off).take n),n_,Z⟩else n_|none=>n_
 |some false=>match h[off]? with|some v=>X ⟨v,n_,Z⟩|none=>n_
 |none=>n_
def QuB (T:Az)(h:Dy)(O:TypeId)(hp:Nat->O_ Ob):V->O_ Rs
 |.loc b i off=>match hp b with
  |some (.var cs)=>match i with|0=>QiX T O cs off n_|_=>n_
  |some (.arr _ rs)=>match h with|.row r=>QiX T O r off (X (rs[i]? = X r))|_=>n_
  |_=>n_
 |.ro cs=>QiX T O cs 0 n_|_=>n_
def Qsr (T:Az)(h:TypeId)(i:Nat):V->O_ Rs
 |.loc b k off=>match look T.fo h with
  |some l=>match l[i]? with|some n=>X ⟨.loc b k (off+n),n_,n_⟩|none=>n_
  |none=>n_
 |.ro O=>match look T.fo h with
  |some l=>match l[i]? with|some n=>X ⟨.ro (O.drop n),n_,n_⟩|none=>n_
  |none=>n_
 |_=>n_
def Qss (T:Az)(h:Dy)(O:TypeId)(hp:Nat->O_ Ob):V->V->O_ Rs
 |.sl z rows,.i _ j=>match look T.es O with
  |some p=>match h with|.row r=>bif Nat.beq z p.2.1 then X ⟨.ro r,n_,X (0<=j/\rows[j.toNat]? = X r)⟩else n_|_=>n_
  |none=>n_
 |.own b n,.i _ j=>match look T.es O with
  |some p=>match hp b with|some (.arr z _)=>bif Nat.beq z p.2.1 then X ⟨.loc b j.toNat 0,n_,X (0<=j/\j<(n:Int))⟩else n_|_=>n_
  |none=>n_
 |.loc b i m,.i _ j=>match look T.ar O with|some p=>bif decide (0<=j)&&decide (j<(p.1:Int))then X ⟨.loc b i (m+j.toNat*p.2),n_,n_⟩else n_|none=>n_
 |.ro cs,.i _ j=>match look T.ar O with|some p=>bif decide (0<=j)&&decide (j<(p.1:Int))then X ⟨.ro (cs.drop (j.toNat*p.2)),n_,n_⟩else n_|none=>n_
 |_,_=>n_
def Qxt (T:Az)(h:Dy)(O:TypeId):V->O_ Rs
 |.sl _ rows=>bif (look T.es O).isSome then match h with|.ln m=>X ⟨.i .i64 m,n_,X (rows.length=m)⟩|_=>X ⟨.i .i64 rows.length,n_,n_⟩
  else n_
 |.own _ n=>bif (look T.es O).isSome then X ⟨.i .i64 n,n_,n_⟩else n_|.lit (.slice n_ 0 0)=>bif (look T.es O).isSome then X ⟨.i .i64 0,n_,n_⟩else n_|.s s=>bif XX T.sb O then X ⟨.i .i64 s.size,n_,n_⟩else n_|_=>n_
def mkV (T:Az)(h:Dy)(O d:TypeId):V->V->O_ Rs
 |.i _ l,.i _ c=>match look T.es O with
  |some p=>match look T.zv p.1 with
   |some zs=>match h with
    |.rows rs=>bif Nat.beq zs.length p.2.1&&!(Nat.beq p.2.1 0)&&zs.all V.one&&Nat.ble p.2.2 32768 then
     X ⟨.own d l.toNat,X (.arr p.2.1 rs),X ((decide (0<=l)&&decide (l<=c)&&decide (c<=4294967296))=t_/\List.replicate l.toNat zs=rs)⟩else n_
    |_=>n_
   |none=>n_
  |none=>n_
 |_,_=>n_
def mmV (mx:Bool):V->V->O_ Rs
 |.i k m,.i h n=>bif ikB k h then bif mx then X ⟨.i k (Vm.max2 m n),n_,n_⟩else X ⟨.i k (Vm.min2 m n),n_,n_⟩else n_|_,_=>n_
def Qsb (P:Program)(C:XC)(T:Az)(h:Dy)(hp:Nat->O_ Ob)(d fn:Nat)(vs:L_ V):O_ Rs:=
 bif XX T.en fn then match h with
 |.c g ms r=>match Qgk hp g ms vs with|some (us,k)=>bif (!g&&r.datA)||r.scaA then X ⟨r,n_,X (k (QX P fn us [] (Gives r [])))⟩else n_|none=>n_
 |.co g ms z rows m=>match Qgk hp g ms vs with|some (us,k)=>X ⟨.own d m,X (.arr z rows),X (k (QX P fn us [] (Gives (.own 600 m) [(600,.arr z rows)])/\rows.length=m/\(g=f_\/∀r∈rows,∀v∈r,v.sca=t_)))⟩|none=>n_
 |.cd g ms z rows m=>match Qgk hp g ms vs with|some (us,k)=>bif !g then X ⟨.sl z rows,n_,X (k (QX P fn us [] (Gives (.own 600 m) [(600,.arr z rows)])/\rows.length=m))⟩else n_|none=>n_
 |_=>n_
 else n_
def ev1 (P:Program)(C:XC)(T:Az)(h:Dy)(o:Oper)(d:Nat)(f:Operand->O_ V)(hp:Nat->O_ Ob):O_ Rs:=
 match h with
 |.any v ob=>X ⟨v,ob,X (∀Y:St,(∀x u,f x=X u->Y.opd x=X u)->(∀b u,hp b=X u->look Y.hp b=X u)->(ob.isSome=t_->look Y.hp d=n_)->Qf P C o Y (Y.addF ⟨d,v,ob⟩))⟩|h=>match o.op with
  |.move x=>match f x with|some v=>X ⟨v,n_,n_⟩|none=>n_
  |.assign x=>match f x with|some v=>X ⟨v,n_,n_⟩|none=>n_
  |.pick c a b=>match f c with
   |some (.b t_)=>match f a with|some v=>X ⟨v,n_,n_⟩|none=>n_
   |some (.b f_)=>match f b with|some v=>X ⟨v,n_,n_⟩|none=>n_
   |_=>n_
  |.binOp op O x y _=>match f x with
   |some v=>match f y with|some u=>Qxs T op O v u|none=>n_
   |none=>n_
  |.unOp op _ x=>match f x with|some v=>unV op v|none=>n_
  |.alloc O=>match look T.zv O with|some zs=>X ⟨.loc d 0 0,X (.var zs),n_⟩|none=>n_
  |.box _ x=>match f x with|some (.agg cs)=>X ⟨.loc d 0 0,X (.var cs),n_⟩|some v=>bif v.one then X ⟨.loc d 0 0,X (.var [v]),n_⟩else n_|none=>n_
  |.load O x=>match f x with|some v=>QuB T h O hp v|none=>n_
  |.fieldAddr O x i=>match f x with|some v=>Qsr T O i v|none=>n_
  |.indexAddr O x y=>match f x with
   |some v=>match f y with|some u=>Qss T h O hp v u|none=>n_
   |none=>n_
  |.build O parts=>match evp f parts.toList with
   |some qs=>match look T.zv O with
    |some zs=>bif qs.all (λq=>q.2.isV)then match look T.sp O with
      |some pl=>match Bw (pl[·]?) zs qs with|some vs=>X ⟨.agg vs,n_,n_⟩|none=>n_
      |none=>match look T.ar O with
       |some p=>match Bw (λi=>X (i*p.2,p.2)) zs qs with|some vs=>X ⟨.agg vs,n_,n_⟩|none=>n_
       |none=>n_
     else n_
    |none=>n_
   |none=>n_
  |.buildSlice O n parts=>match evp f parts.toList with
   |some qs=>match look T.es O with
    |some p=>match look T.zv p.1 with
     |some zs=>bif qs.all (λq=>q.2.isV)&&Nat.beq zs.length p.2.1&&!(Nat.beq p.2.1 0)&&Nat.ble (n*p.2.1) 16777216 then
      match Bw (λi=>X (i*p.2.1,p.2.1)) ((List.range (n*p.2.1)).map λk=>zs.getD (k % p.2.1) .J) qs with
      |some vs=>match h with|.bd ms=>bif (EB ms vs).all V.one&&(EB ms vs).all V.dat then X ⟨.sl p.2.1 (Mz p.2.1 n (EB ms vs)),n_,n_⟩else n_|_=>bif vs.all V.one&&vs.all V.dat then X ⟨.own d n,X (.arr p.2.1 (Mz p.2.1 n vs)),n_⟩else n_
      |none=>n_
      else n_
     |none=>n_
    |none=>n_
   |none=>n_
  |.extract x i=>match f x with
   |some (.tup vs)=>match vs[i]? with|some v=>X ⟨v,n_,n_⟩|none=>n_
   |_=>n_
  |.nilCheck x=>match f x with|some (.loc b i k)=>X ⟨.loc b i k,n_,n_⟩|_=>n_
  |.makeInterface O x=>match f x with|some v=>bif XX T.cc O then X ⟨.ifc O v,n_,n_⟩else n_|none=>n_
  |.typeAssert x _ O false=>match f x with|some (.ifc t v)=>bif Nat.beq t O&&XX T.cc O then X ⟨v,n_,n_⟩else n_|_=>n_
  |.makeFunc fn first caps=>match evs f first.toList with
   |some vs=>match evs f caps.toList with|some us=>X ⟨.clo fn vs us,n_,n_⟩|none=>n_
   |none=>n_
  |.index O x y=>match f x with
   |some (.s s)=>match f y with
    |some (.i _ j)=>match h with|.num r=>bif XX T.sb O then X ⟨.i .u8 r,n_,X (sidx s j=X r)⟩else n_|_=>n_
    |_=>n_
   |_=>n_
  |.makeSlice O x y=>match f x with
   |some v=>match f y with|some u=>mkV T h O d v u|none=>n_
   |none=>n_
  |.makeMap _ none=>X ⟨.map d,X (.map []),n_⟩|.call c=>match c.callee with
   |.builtin .max=>match c.args.toList with
    |[x,y]=>match f x with
     |some v=>match f y with|some u=>mmV t_ v u|none=>n_
     |none=>n_
    |_=>n_
   |.builtin .min=>match c.args.toList with
    |[x,y]=>match f x with
     |some v=>match f y with|some u=>mmV f_ v u|none=>n_
     |none=>n_
    |_=>n_
   |.builtin .len=>match c.args.toList with
    |[x]=>match c.argTypes.toList with
     |[O]=>match f x with|some v=>Qxt T h O v|none=>n_
     |_=>n_
    |_=>n_
   |.value x=>match f x with
    |some (.clo (.func fn) fs cs)=>match evs f c.args.toList with|some vs=>Qsb P C T h hp d fn (fs++(vs++cs))|none=>n_
    |_=>n_
   |_=>n_
  |_=>n_
section
variable {P:Program}{C:XC}{T:Az}{o:Oper}{d:Nat}{f:Operand->O_ V}{hp:Nat->O_ Ob}{Y:St}
def Cj (h1:∀x u,f x=X u->Y.opd x=X u):∀{l:L_ Operand} {vs:L_ V},evs f l=X vs->Y.opsV l=X vs:=by
 intro l
 induction l with
 |nil=>intro vs h;exact h|cons x l ih=>
  intro vs h;rw[evs]at h;split at h
  ·rename_i v hv;split at h
   ·rename_i us O;cases h;simp only[St.opsV,h1 _ _ hv,ih O]
   cases h
  cases h
def Ck (h1:∀x u,f x=X u->Y.opd x=X u):∀{l:L_ (Nat×Operand)} {vs:S_},evp f l=X vs->Y.opds l=X vs:=by
 intro l
 induction l with
 |nil=>intro vs h;exact h|cons x l ih=>
  intro vs h;obtain⟨i,x⟩:=x;rw[evp]at h;split at h
  ·rename_i v hv;split at h
   ·rename_i us O;cases h;simp only[St.opds,h1 _ _ hv,ih O]
   cases h
  cases h
def Yn {α:Type _}{c:Bool}{x:O_ α}{r:α}(h:(bif c then x else n_)=X r):c=t_/\x=X r:=by
 cases c with|true=>exact⟨rfl,h⟩|false=>cases h
def Qlp (h2:∀b u,hp b=X u->look Y.hp b=X u){g:Bool}{m:Mode}{v u:V}{Z:O_ Prop}(h:QuA hp g m v=X (u,Z))(O:(match Z with|none=>True|some p=>p)):ZZ Y.hp g v u:=by
 unfold QuA at h;cases m with
 |d=>obtain⟨hd,h⟩:=Yn h;cases h;exact .dat _ hd
 |n z=>
  dsimp only at h;split at h
  ·cases h;exact .nil _
  cases h
 |o us=>
  dsimp only at h;split at h
  ·dsimp only at h;split at h
   ·rename_i z rs hb;obtain⟨hg,h⟩:=Yn h;subst hg;cases h;exact .own _ _ _ _ _ rfl (h2 _ _ hb) O.1 O.2
   cases h
  cases h
 |f n=>cases h
 |t b=>
  dsimp only at h;split at h
  ·dsimp only at h;split at h
   ·rename_i y u hb;obtain⟨hg,h⟩:=Yn h;subst hg;cases h;have O:_=_:=O;subst O;exact .nst _ _ _ rfl (h2 _ _ hb)
   cases h
  cases h
def Qda (h2:∀b u,hp b=X u->look Y.hp b=X u){g:Bool}:∀{ms:L_ Mode} {vs us:L_ V} {k:Prop->Prop},Qgk hp g ms vs=X (us,k)->∀{p:Prop},k p->SC Y.hp g vs us/\p:=by
 intro ms
 induction ms with
 |nil=>
  intro vs us k h p O;cases vs with
  |nil=>cases h;exact⟨.nil,O⟩
  |cons=>cases h
 |cons m ms ih=>
  intro vs us k h p O;cases vs with
  |nil=>cases h
  |cons v vs=>
   rw[Qgk]at h;split at h
   ·rename_i u Z hu;split at h
    ·rename_i us' k' hus;cases h;cases Z with
     |none=>obtain⟨a,b⟩:=ih hus O;exact⟨.cons (Qlp h2 hu trivial) a,b⟩
     |some q=>obtain⟨a,b⟩:=ih hus O.2;exact⟨.cons (Qlp h2 hu O.1) a,b⟩
    cases h
   cases h
def Qhh {O:TypeId}{cs:L_ V}{off:Nat}{Z:O_ Prop}{r:Rs}(ok:Ek P T)(h:QiX T O cs off Z=X r):
  r.ob=n_/\r.Z=Z/\((AW P O=X t_/\∃n,CV P O=X n/\Nat.ble (off+n) cs.length=t_/\r.v=.agg ((cs.drop off).take n))\/(AW P O=X f_/\cs[off]? = X r.v)):=by
 unfold QiX at h;split at h
 ·rename_i hg;split at h
  ·rename_i n hn;obtain⟨h1,h⟩:=Yn h;cases h;exact⟨rfl,rfl,.inl ⟨ok.ag hg,n,ok.sz hn,h1,rfl⟩⟩
  cases h
 ·rename_i hg;split at h
  ·rename_i v hv;cases h;exact⟨rfl,rfl,.inr ⟨ok.ag hg,hv⟩⟩
  cases h
 cases h
def Ji (P:Program)(C:XC)(o:Oper)(d:Nat)(r:Rs)(Y:St):Prop:=Qf P C o Y (Y.addF ⟨d,r.v,r.ob⟩)
def Ji.put {r:Rs}(O:r.ob=n_)(h:Qf P C o Y (Y.put d r.v)):Ji P C o d r Y:=by
 obtain⟨v,ob,Z⟩:=r;cases O;exact h
def QtG {h:Dy}{Tx:TypeId}{x:Operand}{v:V}{r:Rs}(ok:Ek P T)(ho:o.op=.load Tx x)(hd:o.dst=X d)(hn:B_ d C)(hx:Y.opd x=X v)
  (h2:∀b u,hp b=X u->look Y.hp b=X u) (e:QuB T h Tx hp v=X r) (hφ:r.holds):Ji P C o d r Y:=by
 unfold QuB at e;split at e
 ·rename_i b i off;split at e
  ·rename_i cs hb;split at e
   ·obtain⟨e1,e2,⟨O,n,e4,e5,e6⟩|⟨O,e4⟩⟩:=Qhh ok e
    ·refine Ji.put e1 ?_;rw[e6];exact Qf.loadAL ho hd hn hx (h2 _ _ hb) O e4 e5 rfl
    exact Ji.put e1 (Qf.load1L ho hd hn hx (h2 _ _ hb) O e4)
   cases e
  ·rename_i z rs hb;split at e
   ·rename_i r';obtain⟨e1,e2,⟨O,n,e4,e5,e6⟩|⟨O,e4⟩⟩:=Qhh ok e
    ·rw[Rs.holds,e2]at hφ;refine Ji.put e1 ?_;rw[e6];exact Qf.loadAA ho hd hn hx (h2 _ _ hb) O e4 hφ e5 rfl
    rw[Rs.holds,e2]at hφ;exact Ji.put e1 (Qf.load1A ho hd hn hx (h2 _ _ hb) O hφ e4)
   cases e
  cases e
 ·rename_i cs;obtain⟨e1,e2,⟨O,n,e4,e5,e6⟩|⟨O,e4⟩⟩:=Qhh ok e
  ·refine Ji.put e1 ?_;rw[e6];rw[Gp]at e5;exact Qf.loadAR ho hd hn hx O e4 e5 rfl
  exact Ji.put e1 (Qf.load1R ho hd hn hx O e4)
 cases e
def QuC {op:BinOp}{Tx Ty:TypeId}{x y:Operand}{v u:V}{r:Rs}(ok:Ek P T)(ho:o.op=.binOp op Tx x y Ty)(h:o.dst=X d)(O:B_ d C)(hx:Y.opd x=X v)(hy:Y.opd y=X u)
  (e:Qxs T op Tx v u=X r) (hφ:r.holds):Ji P C o d r Y:=by
 unfold Qxs at e;split at e
 ·rename_i k m k' n;replace e:=Yn e;obtain⟨e1,e⟩:=e;have:=Qsq e1;subst this;split at e
  ·cases e;exact Ji.put rfl (Qf.divi ho h O hx hy hφ (.inl ⟨rfl,rfl⟩))
  ·cases e;exact Ji.put rfl (Qf.divi ho h O hx hy hφ (.inr ⟨rfl,rfl⟩))
  split at e
  ·rename_i w hw;cases e;exact Ji.put rfl (Qf.bin ho h O hx hy hw)
  cases e
 ·replace e:=Yn e;obtain⟨e1,e⟩:=e;split at e
  ·cases e;exact Ji.put rfl (Qf.eqB ho h O hx hy (ok.bo e1) (.inl ⟨rfl,rfl⟩))
  ·cases e;exact Ji.put rfl (Qf.eqB ho h O hx hy (ok.bo e1) (.inr ⟨rfl,rfl⟩))
  cases e
 ·split at e
  ·cases e;exact Ji.put rfl (Qf.eqS ho h O hx hy (.inl ⟨rfl,rfl⟩))
  ·cases e;exact Ji.put rfl (Qf.eqS ho h O hx hy (.inr ⟨rfl,rfl⟩))
  cases e
 cases e
def Qst {Tx:TypeId}{i:Nat}{x:Operand}{v:V}{r:Rs}(ok:Ek P T)(ho:o.op=.fieldAddr Tx x i)(hd:o.dst=X d)(hn:B_ d C)(hx:Y.opd x=X v)
  (e:Qsr T Tx i v=X r):Ji P C o d r Y:=by
 unfold Qsr at e;split at e
 ·split at e
  ·rename_i l O;split at e
   ·rename_i n h;cases e;exact Ji.put rfl (Qf.fieldL ho hd hn hx (ok.fo O h))
   cases e
  cases e
 ·split at e
  ·rename_i l O;split at e
   ·rename_i n h;cases e;exact Ji.put rfl (Qf.fieldR ho hd hn hx (ok.fo O h) rfl)
   cases e
  cases e
 cases e
def Qsu {h:Dy}{Tx:TypeId}{x y:Operand}{v u:V}{r:Rs}(ok:Ek P T)(ho:o.op=.indexAddr Tx x y)(hd:o.dst=X d)(hn:B_ d C)(hx:Y.opd x=X v)(hy:Y.opd y=X u)
  (h2:∀b u,hp b=X u->look Y.hp b=X u) (e:Qss T h Tx hp v u=X r) (hφ:r.holds):Ji P C o d r Y:=by
 unfold Qss at e;split at e
 ·split at e
  ·rename_i p O;split at e
   ·replace e:=Yn e;obtain⟨e1,e⟩:=e;obtain⟨pe,pz,pb⟩:=p;have:=Nat.eq_of_beq_eq_true e1;dsimp only at this;subst this;cases e;exact Ji.put rfl (Qf.idxS ho hd hn hx hy (ok.es O) hφ.1 hφ.2)
   cases e
  cases e
 ·split at e
  ·rename_i p O;split at e
   ·rename_i z rs hb;replace e:=Yn e;obtain⟨e1,e⟩:=e;obtain⟨pe,pz,pb⟩:=p;have:=Nat.eq_of_beq_eq_true e1;dsimp only at this;subst this;cases e;exact Ji.put rfl (Qf.idxO ho hd hn hx hy (ok.es O) (h2 _ _ hb) hφ.1 hφ.2)
   cases e
  cases e
 ·split at e
  ·rename_i p O;replace e:=Yn e;obtain⟨e1,e⟩:=e;rw[QN,Qw,Qw]at e1;cases e;exact Ji.put rfl (Qf.idxAL ho hd hn hx hy (ok.ar O) e1.1 e1.2 rfl)
  cases e
 ·split at e
  ·rename_i p O;replace e:=Yn e;obtain⟨e1,e⟩:=e;rw[QN,Qw,Qw]at e1;cases e;exact Ji.put rfl (Qf.idxAR ho hd hn hx hy (ok.ar O) e1.1 e1.2 rfl)
  cases e
 cases e
def QuD {h:Dy}{Tx:TypeId}{x:Operand}{v:V}{r:Rs}(ok:Ek P T)(ho:o.op=.call { callee:=.builtin .len,args:=#[x],argTypes:=#[Tx] })(hd:o.dst=X d)(hn:B_ d C)(hx:Y.opd x=X v)
  (e:Qxt T h Tx v=X r) (hφ:r.holds):Ji P C o d r Y:=by
 have es:∀{t:Nat},(look T.es t).isSome=t_->∃p,YD P t=X p:=λ{t} h=>by
  cases hl:look T.es t with
  |none=>rw[hl]at h;cases h
  |some p=>exact⟨p,ok.es hl⟩
 unfold Qxt at e;split at e
 ·replace e:=Yn e;obtain⟨e1,e⟩:=e;obtain⟨p,O⟩:=es e1;split at e
  ·cases e;exact Ji.put rfl (Qf.lenS' ho hd hn hx O hφ)
  cases e;exact Ji.put rfl (Qf.lenS ho hd hn hx O)
 ·replace e:=Yn e;obtain⟨e1,e⟩:=e;obtain⟨p,O⟩:=es e1;cases e;exact Ji.put rfl (Qf.lenO ho hd hn hx O)
 ·replace e:=Yn e;obtain⟨e1,e⟩:=e;obtain⟨p,O⟩:=es e1;cases e;exact Ji.put rfl (Qf.lenN ho hd hn hx O)
 ·replace e:=Yn e;obtain⟨e1,e⟩:=e;cases e;exact Ji.put rfl (Qf.lenStr ho hd hn hx (ok.sb e1))
 cases e
def QqU {mx:Bool}{x y:Operand}{v u:V}{ts:Array TypeId}{r:Rs}(ho:o.op=.call { callee:=.builtin (if mx then .max else .min),args:=#[x,y],argTypes:=ts })(h:o.dst=X d)(O:B_ d C)(hx:Y.opd x=X v)(hy:Y.opd y=X u)
  (e:mmV mx v u=X r):Ji P C o d r Y:=by
 unfold mmV at e;split at e
 ·replace e:=Yn e;obtain⟨e1,e⟩:=e;have:=Qsq e1;subst this;cases mx with
  |true=>cases e;exact Ji.put rfl (Qf.max2 ho h O hx hy)
  |false=>cases e;exact Ji.put rfl (Qf.min2 ho h O hx hy)
 cases e
def QvV {h:Dy}{Tx:TypeId}{x y:Operand}{v u:V}{r:Rs}(ok:Ek P T)(ho:o.op=.makeSlice Tx x y)(hd:o.dst=X d)(hn:B_ d C)(hx:Y.opd x=X v)(hy:Y.opd y=X u)
  (e:mkV T h Tx d v u=X r) (hφ:r.holds) (hf:r.ob.isSome=t_->look Y.hp d=n_):Ji P C o d r Y:=by
 unfold mkV at e;split at e
 ·split at e
  ·rename_i p O;split at e
   ·rename_i zs hz;split at e
    ·replace e:=Yn e;obtain⟨e1,e⟩:=e;simp only[QN,Ga]at e1;obtain⟨⟨⟨a1,a2⟩,a3⟩,a4⟩:=e1;cases e;exact Qf.make' ho hd hn hx hy (ok.es O) (ok.zv hz) (Yp a1) (λh0=>by rw[h0]at a2;cases a2) a3 hφ.1 a4 (hf rfl) hφ.2
    cases e
   cases e
  cases e
 cases e
def Gives.own {fn:Nat}{us:L_ V}{z m:Nat}{rows:L_ (L_ V)}(h:QX P fn us [] (Gives (.own 600 m) [(600,.arr z rows)]))(O:rows.length=m):QX P fn us [] (QnI z rows):=
 h.mono λv hs ⟨a,b⟩=>⟨600,by rw[a,O],b _ _ rfl⟩
def QtH {h:Dy}{fn:Nat}{vs:L_ V}{r:Rs}(ok:Ek P T)(hE:JP P C o Y fn vs)(hd:o.dst=X d)(hn:B_ d C)(O:C.pg P)
  (h2:∀b u,hp b=X u->look Y.hp b=X u) (e:Qsb P C T h hp d fn vs=X r) (hφ:r.holds) (hf:r.ob.isSome=t_->look Y.hp d=n_):Ji P C o d r Y:=by
 unfold Qsb at e;replace e:=Yn e;obtain⟨e1,e⟩:=e;split at e
 ·split at e
  ·rename_i us k hv;replace e:=Yn e;obtain⟨e2,e⟩:=e;cases e;obtain⟨a1,a2⟩:=Qda h2 hv hφ;refine Ji.put rfl (Qf.callE hE hd hn O a1 (a2.mono λ_ _ h=>h.1) ?_);rw[KG,QN]at e2;exact e2.imp (λh=>⟨by simpa using h.1,h.2⟩) id
  cases e
 ·split at e
  ·rename_i us k hv;cases e;obtain⟨a1,a2,a3,a4⟩:=Qda h2 hv hφ;exact Qf.callOE hE hd hn O a1 (Gives.own a2 a3) a4 (hf rfl) a3
  cases e
 ·split at e
  ·rename_i us k hv;replace e:=Yn e;obtain⟨e2,e⟩:=e;cases e;obtain⟨a1,a2,a3⟩:=Qda h2 hv hφ;exact Ji.put rfl (Qf.callE hE hd hn O a1 (Gives.own a2 a3).toData (.inl ⟨by simpa using e2,rfl⟩))
  cases e
 cases e
def QiY {h:Dy}{r:Rs}(ok:Ek P T)(hd:o.dst=X d)(hn:B_ d C)(hpg:C.pg P)(h1:∀x u,f x=X u->Y.opd x=X u)(h2:∀b u,hp b=X u->look Y.hp b=X u)
  (e:ev1 P C T h o d f hp=X r) (hφ:r.holds) (hf:r.ob.isSome=t_->look Y.hp d=n_):Ji P C o d r Y:=by
 unfold ev1 at e;split at e
 ·cases e;exact hφ Y h1 h2 hf
 split at e
 ·rename_i x O;split at e
  ·rename_i v hv;cases e;exact Ji.put rfl (Qf.move O hd hn (h1 _ _ hv))
  cases e
 ·rename_i x O;split at e
  ·rename_i v hv;cases e;exact Ji.put rfl (Qf.assign O hd hn (h1 _ _ hv))
  cases e
 ·rename_i c a b O;split at e
  ·rename_i hc;split at e
   ·rename_i v hv;cases e;exact Ji.put rfl (Qf.pickT O hd hn (h1 _ _ hc) rfl (h1 _ _ hv))
   cases e
  ·rename_i hc;split at e
   ·rename_i v hv;cases e;exact Ji.put rfl (Qf.pickF O hd hn (h1 _ _ hc) rfl (h1 _ _ hv))
   cases e
  cases e
 ·rename_i op Tx x y Ty O;split at e
  ·rename_i v hv;split at e
   ·rename_i u hu;exact QuC ok O hd hn (h1 _ _ hv) (h1 _ _ hu) e hφ
   cases e
  cases e
 ·rename_i op Tx x O;split at e
  ·rename_i v hv;unfold unV at e;split at e
   ·split at e
    ·cases e;exact Ji.put rfl (Qf.not O hd hn (h1 _ _ hv))
    cases e
   ·split at e
    ·cases e;exact Ji.put rfl (Qf.neg O hd hn (h1 _ _ hv))
    cases e
   cases e
  cases e
 ·rename_i Tx O;split at e
  ·rename_i zs hz;cases e;exact Qf.alloc O hd hn (ok.zv hz) (hf rfl)
  cases e
 ·rename_i Tx x O;split at e
  ·rename_i cs hv;cases e;exact Qf.box O hd hn (h1 _ _ hv) (.inr ⟨_,rfl⟩) (hf rfl)
  ·rename_i v hne hv;replace e:=Yn e;obtain⟨e1,e⟩:=e;cases e;have hc:v.cells=[v]:=by cases v<;>first|rfl|exact absurd rfl (hne _)
   have:=Qf.box (P:=P) O hd hn (h1 _ _ hv) (.inl e1) (hf rfl);rw[hc]at this;exact this
  cases e
 ·rename_i Tx x O;split at e
  ·rename_i v hv;exact QtG ok O hd hn (h1 _ _ hv) h2 e hφ
  cases e
 ·rename_i Tx x i O;split at e
  ·rename_i v hv;exact Qst ok O hd hn (h1 _ _ hv) e
  cases e
 ·rename_i Tx x y O;split at e
  ·rename_i v hv;split at e
   ·rename_i u hu;exact Qsu ok O hd hn (h1 _ _ hv) (h1 _ _ hu) h2 e hφ
   cases e
  cases e
 ·rename_i Tx parts O;split at e
  ·rename_i qs hq;split at e
   ·rename_i zs hz;replace e:=Yn e;obtain⟨e1,e⟩:=e;split at e
    ·rename_i pl hpl;split at e
     ·rename_i vs hvs;cases e;exact Ji.put rfl (Qf.build O hd hn (ok.zv hz) (ok.sp hpl) (Ck h1 hq) e1 hvs)
     cases e
    split at e
    ·rename_i p hp';split at e
     ·rename_i vs hvs;cases e;exact Ji.put rfl (Qf.buildA O hd hn (ok.zv hz) (ok.ar hp') (Ck h1 hq) e1 hvs)
     cases e
    cases e
   cases e
  cases e
 ·rename_i Tx n parts O;split at e
  ·rename_i qs hq;split at e
   ·rename_i p hp';split at e
    ·rename_i zs hz;replace e:=Yn e;obtain⟨e1,e⟩:=e;split at e
     ·rename_i vs hvs;simp only[QN,Ga]at e1;obtain⟨⟨⟨e3,e4⟩,e5⟩,e6⟩:=e1;have e4:=Yp e4;split at e
      ·replace e:=Yn e;obtain⟨e2,e⟩:=e;cases e;rw[QN]at e2;exact Ji.put rfl (Qf.buildSliceD _ O hd hn (ok.es hp') (ok.zv hz) e4 (λh0=>by rw[h0]at e5;cases e5) (JC e6) (Ck h1 hq) e3 hvs e2.1 e2.2 rfl)
      replace e:=Yn e;obtain⟨e2,e⟩:=e;cases e;rw[QN]at e2;exact Qf.buildSlice O hd hn (ok.es hp') (ok.zv hz) e4 (λh0=>by rw[h0]at e5;cases e5) (JC e6) (Ck h1 hq) e3 hvs e2.1 e2.2 rfl (hf rfl)
     cases e
    cases e
   cases e
  cases e
 ·rename_i x i O;split at e
  ·rename_i vs hv;split at e
   ·rename_i v hv';cases e;exact Ji.put rfl (Qf.extract O hd hn (h1 _ _ hv) hv')
   cases e
  cases e
 ·rename_i x O;split at e
  ·rename_i hv;cases e;exact Ji.put rfl (Qf.nilCheckL O hd hn (h1 _ _ hv))
  cases e
 ·rename_i Tx x O;split at e
  ·rename_i v hv;replace e:=Yn e;obtain⟨e1,e⟩:=e;cases e;exact Ji.put rfl (Qf.makeInterface O hd hn (h1 _ _ hv) (ok.cc e1))
  cases e
 ·rename_i x S Tx O;split at e
  ·rename_i t v hv;replace e:=Yn e;obtain⟨e1,e⟩:=e;rw[QN]at e1;have:=Yp e1.1;subst this;cases e;exact Ji.put rfl (Qf.typeAssert O hd hn (h1 _ _ hv) (ok.cc e1.2))
  cases e
 ·rename_i fn first caps O
  split at e
  ·rename_i vs hv;split at e
   ·rename_i us hu;cases e;exact Ji.put rfl (Qf.makeFunc O hd hn (Cj h1 hv) (Cj h1 hu))
   cases e
  cases e
 ·rename_i Tx x y O;split at e
  ·rename_i s hs;split at e
   ·rename_i k j hj;split at e
    ·replace e:=Yn e;obtain⟨e1,e⟩:=e;cases e;exact Ji.put rfl (Qf.idxStr' O hd hn (h1 _ _ hs) (h1 _ _ hj) (ok.sb e1) hφ)
    cases e
   cases e
  cases e
 ·rename_i Tx x y O;split at e
  ·rename_i v hv;split at e
   ·rename_i u hu;exact QvV ok O hd hn (h1 _ _ hv) (h1 _ _ hu) e hφ hf
   cases e
  cases e
 ·rename_i O;cases e;exact Qf.makeMap O hd hn (hf rfl)
 ·rename_i c O;obtain⟨cl,ags,ts⟩:=c;split at e
  ·rename_i hc;dsimp only at hc e;subst hc;split at e
   ·rename_i x y hxy;split at e
    ·rename_i v hv;split at e
     ·rename_i u hu;have ea:ags=#[x,y]:=by rw[<-QeB (xs:=ags),hxy]
      subst ea;exact QqU (mx:=t_) O hd hn (h1 _ _ hv) (h1 _ _ hu) e
     cases e
    cases e
   cases e
  ·rename_i hc;dsimp only at hc e;subst hc;split at e
   ·rename_i x y hxy;split at e
    ·rename_i v hv;split at e
     ·rename_i u hu;have ea:ags=#[x,y]:=by rw[<-QeB (xs:=ags),hxy]
      subst ea;exact QqU (mx:=f_) O hd hn (h1 _ _ hv) (h1 _ _ hu) e
     cases e
    cases e
   cases e
  ·rename_i hc;dsimp only at hc e;subst hc;split at e
   ·rename_i x hx;split at e
    ·rename_i Tx hT;split at e
     ·rename_i v hv;have ea:ags=#[x]:=by rw[<-QeB (xs:=ags),hx]
      have et:ts=#[Tx]:=by rw[<-QeB (xs:=ts),hT]
      subst ea;subst et;exact QuD ok O hd hn (h1 _ _ hv) e hφ
     cases e
    cases e
   cases e
  ·rename_i x hc;dsimp only at hc e;subst hc;split at e
   ·rename_i fn fs cs hx;split at e
    ·rename_i vs hv;have e1:XX T.en fn=t_:=by unfold Qsb at e;exact(Yn e).1
     exact QtH ok (JP.clo O (h1 _ _ hx) (ok.en e1) (Cj h1 hv)) hd hn hpg h2 e hφ hf
    cases e
   cases e
  cases e
 cases e
end
inductive Fr where
 |seq (y:Code)
 |blk (id:Nat)
 |cut (K:St->Prop)
inductive Pt where
 |c (c:Code)
 |o (ops:Array Oper) (l:List Oper)
 |x (e:Exit)
section
variable (P:Program)(C:XC)(Q:Exit->St->Prop)
def unw : L_ Fr->Exit->St->Prop
 |[]=>Q|.seq y::k=>Qg3 (λY=>YX P C y Y (unw k)) (unw k)|.blk id::k=>Qc4 id (unw k)|.cut K::k=>Qg3 K (unw k)
def AK (pt:Pt)(ks:L_ Fr)(Y:St):Prop:=match pt with|.c c=>YX P C c Y (unw P C Q ks)|.o ops l=>AL P C ops l Y (unw P C Q ks)|.x e=>∀a w,R C Y a w->up C (unw P C Q ks) e a w
end
section
variable {P:Program}{C:XC}{Q:Exit->St->Prop}{Y σ':St}{ks:L_ Fr}
def AK.weaken {pt:Pt}(h:∀a w,R C Y a w->R C σ' a w)(k:AK P C Q pt ks σ'):AK P C Q pt ks Y:=by
 cases pt with|c c=>exact λa w O=>k a w (h a w O)|o ops l=>exact λa w O=>k a w (h a w O)|x e=>exact λa w O=>k a w (h a w O)
def AK.done {e:Exit}(h:Q e Y):AK P C Q (.x e) [] Y:=λa w O=>⟨Y,h,O⟩
def AK.met {K:St->Prop}(h:K Y):AK P C Q (.x .normal) (.cut K::ks) Y:=λa w O=>⟨Y,h,O⟩
def AK.seq {x y:Code}(h:AK P C Q (.c x) (.seq y::ks) Y):AK P C Q (.c (.seq x y)) ks Y:=YX.seq h
def AK.block {id:Nat}{x:Code}(h:AK P C Q (.c x) (.blk id::ks) Y):AK P C Q (.c (.block id x)) ks Y:=YX.block h
def AK.region {id:Nat}{ops:Array Oper}(h:AK P C Q (.o ops ops.toList) ks Y):AK P C Q (.c (.region id ops f_)) ks Y:=YX.region h
def AK.skip (h:AK P C Q (.x .normal) ks Y):AK P C Q (.c .skip) ks Y:=λa w O=>wpIn_skip (h a w O)
def AK.label {l:Nat}(h:AK P C Q (.x .normal) ks Y):AK P C Q (.c (.label l)) ks Y:=λa w O=>wpIn_label (h a w O)
def AK.exit {id:Nat}(h:AK P C Q (.x (.exit id)) ks Y):AK P C Q (.c (.exit id)) ks Y:=λa w O=>wpIn_exit (h a w O)
def AK.ret (h:AK P C Q (.x .ret) ks Y):AK P C Q (.c .ret) ks Y:=λa w O=>wpIn_ret (h a w O)
def AK.nil {ops:Array Oper}(h:AK P C Q (.x .normal) ks Y):AK P C Q (.o ops []) ks Y:=h
def AK.popSeq {y:Code}(h:AK P C Q (.c y) ks Y):AK P C Q (.x .normal) (.seq y::ks) Y:=λa w O=>⟨Y,h,O⟩
def AK.popBlk {id:Nat}(h:AK P C Q (.x .normal) ks Y):AK P C Q (.x .normal) (.blk id::ks) Y:=h
def AK.exSeq {y:Code}{i:Nat}(h:AK P C Q (.x (.exit i)) ks Y):AK P C Q (.x (.exit i)) (.seq y::ks) Y:=h
def AK.exCut {K:St->Prop}{i:Nat}(h:AK P C Q (.x (.exit i)) ks Y):AK P C Q (.x (.exit i)) (.cut K::ks) Y:=h
def AK.exBlk {i j:Nat}(e:Nat.beq i j=t_)(h:AK P C Q (.x .normal) ks Y):AK P C Q (.x (.exit i)) (.blk j::ks) Y:=λa w O=>
 let ⟨σ',h1,h2⟩:=h a w O;⟨σ',QBo e h1,h2⟩
def AK.exBlk' {i j:Nat}(e:Nat.beq i j=f_)(h:AK P C Q (.x (.exit i)) ks Y):AK P C Q (.x (.exit i)) (.blk j::ks) Y:=λa w O=>
 let ⟨σ',h1,h2⟩:=h a w O;⟨σ',QBp e h1,h2⟩
def AK.retPop {f:Fr}(h:AK P C Q (.x .ret) ks Y):AK P C Q (.x .ret) (f::ks) Y:=by
 cases f<;>exact h
def AK.meet {x y:Code}(K:St->Prop)(h:AK P C Q (.c x) (.cut K::ks) Y)(O:∀σ',K σ'->AK P C Q (.c y) ks σ'):AK P C Q (.c (.seq x y)) ks Y:=YX.seqK K h O
def AK.meetX {c:Code}(K:St->Prop)(hx:AK P C Q (.c c) (.cut K::ks) Y)(hy:∀σ',K σ'->AK P C Q (.x .normal) ks σ'):AK P C Q (.c c) ks Y:=by
 intro a w hR;refine wpIn_mono (hx a w hR) ?_;rintro e a w ⟨σ',h,O⟩;cases e<;>first|exact hy σ' h a w O|exact⟨σ',h,O⟩
def Qsv {τ ρ:Type}(E:τ->St->Prop)(h:ρ->Exit->St->Prop)(o:τ⊕ρ):Exit->St->Prop:=
 Qg3 (λσ'=>∃O,o=.inl O/\E O σ') (λe σ'=>∃r,o=.inr r/\h r e σ')
def QBr {τ ρ:Type}{E:τ->St->Prop}{O:ρ->Exit->St->Prop}{o:τ⊕ρ}{s':τ}(h:o=.inl s')(he:E s' Y):AK P C (Qsv E O o) (.x .normal) [] Y:=AK.done ⟨s',h,he⟩
def QBs {τ ρ:Type}{E:τ->St->Prop}{O:ρ->Exit->St->Prop}{o:τ⊕ρ}{r:ρ}{i:Nat}(h:o=.inr r)(he:O r (.exit i) Y):AK P C (Qsv E O o) (.x (.exit i)) [] Y:=AK.done ⟨r,h,he⟩
def AK.loop {τ ρ:Type}{body:τ->O_ (τ⊕ρ)}{c:Code}(E:τ->St->Prop)(O:ρ->Exit->St->Prop){s0:τ}{r:ρ}(hr:Qq body s0=X r)(h0:E s0 Y)
  (round:∀s o Y,E s Y->body s=X o->AK P C (Qsv E O o) (.c c) [] Y) (hQ:∀e σ',O r e σ'->AK P C Q (.x e) ks σ'):AK P C Q (.c (.loop c)) ks Y:=by
 intro a w hR;refine wpIn_mono (YX.loop (Q:=λe σ'=>O r e σ') E O round (Qbk.1 hr) h0 (λe σ' h=>h) a w hR) ?_;rintro e a' w' ⟨σ',hp,hR'⟩;exact hQ e σ' hp a' w' hR'
end
def V.isUnd : V->Bool
 |.lit (.tuple a)=>a.isEmpty|_=>f_
def V.isUnd_eq {v:V}(h:v.isUnd=t_):v=.lit undef:=by
 unfold V.isUnd at h;split at h
 ·rename_i a;rw[Array.isEmpty_iff]at h;subst h;rfl
 cases h
inductive Ent where
 |fn
 |clo
 |me (f:Nat)
 |mv (f e:Nat)
def UO : L_ (Nat×Nat)->Nat->O_ Nat
 |[],_=>n_|(b,h)::r,a=>bif Nat.beq h a then X b else UO r a
def trC (bk:Nat->O_ Nat):V->O_ V
 |.own a n=>match bk a with|some b=>X (.own b n)|none=>n_
 |.loc a i d=>match bk a with|some b=>X (.loc b i d)|none=>n_
 |.map a=>match bk a with|some b=>X (.map b)|none=>n_
 |.ifc t x=>match trC bk x with|some y=>X (.ifc t y)|none=>n_
 |v=>bif v.datA then X v else n_
def trL (bk:Nat->O_ Nat):L_ V->O_ (L_ V)
 |[]=>X []|v::vs=>match trC bk v with
  |some u=>match trL bk vs with|some us=>X (u::us)|none=>n_
  |none=>n_
def trV (bk:Nat->O_ Nat):V->O_ V
 |.agg h=>bif (V.agg h).datA then X (.agg h)else match trL bk h with|some us=>X (.agg us)|none=>n_
 |.tup h=>bif (V.tup h).datA then X (.tup h)else match trL bk h with|some us=>X (.tup us)|none=>n_
 |.clo fn fs h=>match trL bk fs with
  |some us=>match trL bk h with|some ds=>X (.clo fn us ds)|none=>n_
  |none=>n_
 |v=>trC bk v
def Qsw (bk:Nat->O_ Nat):L_ V->O_ (L_ V)
 |[]=>X []|v::vs=>match trV bk v with
  |some u=>match Qsw bk vs with|some us=>X (u::us)|none=>n_
  |none=>n_
def trO (bk:Nat->O_ Nat):Ob->O_ Ob
 |.var h=>match Qsw bk h with|some us=>X (.var us)|none=>n_
 |.lp l K h q=>match Qsw bk h with|some us=>X (.lp l K us q)|none=>n_
 |.arr z rs=>X (.arr z rs)|.map l=>X (.map l)|.grp z l O=>X (.grp z l O)|.tbl A z rs=>X (.tbl A z rs)|_=>n_
def QzH (bk:Nat->O_ Nat):Mode->V->O_ V
 |.n z,.lit (.slice n_ 0 0)=>X (.sl z [])|.d,v=>trV bk v|.f n,.agg h=>match trL bk (h.set n .J)with
  |some us=>match us[n]? with|some .J=>X (.agg us)|_=>n_
  |none=>n_
 |_,_=>n_
def Vs (bk:Nat->O_ Nat):L_ Mode->L_ V->O_ (L_ V)
 |[],[]=>X []|m::ms,v::vs=>match QzH bk m v with
  |some u=>match Vs bk ms vs with|some us=>X (u::us)|none=>n_
  |none=>n_
 |_,_=>n_
def Nm (bk:Nat->O_ Nat)(src:Nat->O_ Ob):L_ (Nat×Nat)->O_ H_
 |[]=>X []|(d,s)::r=>match src s with
  |some ob=>match trO bk ob with
   |some ob'=>match Nm bk src r with|some l=>X ((d,ob')::l)|none=>n_
   |none=>n_
  |none=>n_
def Qxu (P:Program)(T:Az)(Y:St)(Z:Prop)(c:Call):Ent->O_ (Nat×L_ V×Prop)
 |.fn=>match c.callee with
  |.value (.func f)=>bif XX T.en f then match evs Y.opd c.args.toList with|some vs=>X (f,vs,Z)|none=>n_
   else n_
  |_=>n_
 |.clo=>match c.callee with
  |.value x=>match Y.opd x with
   |some (.clo (.func f) fs h)=>bif XX T.en f then match evs Y.opd c.args.toList with|some vs=>X (f,fs++(vs++h),Z)|none=>n_
    else n_
   |_=>n_
  |_=>n_
 |.me f=>match c.callee with
  |.invoke x name=>match Y.opd x with
   |some (.ifc t u)=>bif XX T.en f then match evs Y.opd c.args.toList with|some vs=>X (f,u::vs,Z/\((CW P t name=X (f,t_)/\QlE P t=t_)\/(CW P t name=X (f,f_)/\Qc9 P t=t_)))|none=>n_
    else n_
   |_=>n_
  |_=>n_
 |.mv f e=>match c.callee with
  |.invoke x name=>match Y.opd x with
   |some (.ifc t (.loc b 0 off))=>match look Y.hp b with
    |some (.var h)=>match h[off]? with
     |some r=>bif XX T.en f then match evs Y.opd c.args.toList with|some vs=>X (f,r::vs,Z/\(CW P t name=X (f,f_)/\QeI P t e=t_/\AW P e=X f_))|none=>n_
      else n_
     |none=>n_
    |_=>n_
   |_=>n_
  |_=>n_
def cmV (P:Program)(Y:St)(Z:Prop)(d f:Nat)(vs:L_ V)(M N:L_ (Nat×Nat))(dead:L_ Nat)(ms:L_ Mode)(outs:H_)(r:V):O_ (St×Prop):=
 bif Ug Y M N dead outs&&Ik (M.map Prod.fst)&&Ik (N.map Prod.fst)then match Vs (UO M) ms vs with
  |some us=>match Nm (UO M) (look Y.hp) M with
   |some h=>match Nm (UO N) (look outs) N with
    |some O=>match trV (UO N) r with|some r'=>X ((Y.after dead O).put d r',Z/\QX P f us h (Gives r outs))|none=>n_
    |none=>n_
   |none=>n_
  |none=>n_
 else n_
inductive HK where
 |n (k:Nat)
 |o (h:Dy)
 |v (h:Dy) (ms:List (Option Nat)) (v:V)
 |br (b:Bool)
 |st (r:List V) (rs:List (List V))
 |app (rs:List (List V)) (m:Nat)
 |x (g:St->St)
 |say (t:Nat) (v:V)
 |sayO (b:Nat) (ob:Ob)
 |adopt (t b z:Nat)
 |denil (t:Nat) (ms:List (Option Nat))
 |denilO (b:Nat) (ms:List (Option Nat))
 |ren (o o':Nat)
 |kill (b:Nat)
 |keep (ts os:List Nat)
 |frz (b:Nat) (us:List (List V)) (ts os:List Nat)
 |adoptO (p i b z:Nat)
 |cm (en:Ent) (M N:List (Nat×Nat)) (dead:List Nat) (ms:List Mode) (outs:List (Nat×Ob)) (r:V)
structure Cfg where
 pt:Pt
 ks:List Fr
 Y:St
 Z:Prop
def Qdb (Z:Prop):O_ Prop->Prop
 |none=>Z|some p=>Z/\p
def ctl : Pt->L_ Fr->St->O_ (Pt×L_ Fr)
 |.c (.seq x y),ks,_=>X (.c x,.seq y::ks)|.c (.block id x),ks,_=>X (.c x,.blk id::ks)|.c (.region _ ops f_),ks,_=>X (.o ops ops.toList,ks)|.c .skip,ks,_=>X (.x .normal,ks)|.c (.label _),ks,_=>X (.x .normal,ks)|.c (.exit i),ks,_=>X (.x (.exit i),ks)|.c .ret,ks,_=>X (.x .ret,ks)|.c (.cond c x y),ks,Y=>match Y.opd c with|some (.b t_)=>X (.c x,ks)|some (.b f_)=>X (.c y,ks)|_=>n_
 |.o _ [],ks,_=>X (.x .normal,ks)|.x .normal,.seq y::ks,_=>X (.c y,ks)|.x .normal,.blk _::ks,_=>X (.x .normal,ks)|.x (.exit i),.seq _::ks,_=>X (.x (.exit i),ks)|.x (.exit i),.cut _::ks,_=>X (.x (.exit i),ks)|.x (.exit i),.blk j::ks,_=>bif Nat.beq i j then X (.x .normal,ks)else X (.x (.exit i),ks)|.x .ret,_::ks,_=>X (.x .ret,ks)|_,_,_=>n_
def BA (ops:Array Oper)(o:Oper)(f:Nat->O_ V):O_ Bool:=match o.guard with
 |none=>X t_|some (j,t)=>match ops[j]? with
  |some h=>match h.dst with
   |some d=>match f d with|some (.b t_)=>X t|some (.b f_)=>X (!t)|some v=>bif v.isUnd then X f_ else n_|none=>n_
   |none=>n_
  |none=>n_
def QvW (T:Az)(O:TypeId)(Y:St)(Z:Prop):V->V->O_ (St×Prop)
 |.loc b i off,v=>match look Y.hp b with
  |some (.var h)=>match i with
   |0=>match look T.sz O with|some n=>bif v.isV&&Nat.beq v.cells.length n&&v.cells.all V.one&&Nat.ble (off+n) h.length then X (Y.set b (.var (WW h off v.cells)),Z)else n_|none=>n_
   |_=>n_
  |_=>n_
 |_,_=>n_
def storeA (T:Az)(h:TypeId)(Y:St)(Z:Prop)(r:L_ V)(rs':L_ (L_ V)):V->V->O_ (St×Prop)
 |.loc b i off,v=>match look Y.hp b with
  |some (.arr z rs)=>match look T.sz h with
    |some n=>bif v.isV&&Nat.beq v.cells.length n&&v.cells.all V.one&&v.cells.all V.dat&&Nat.ble (off+n) z then
     X (Y.set b (.arr z rs'),Z/\(rs[i]? = X r/\rs.set i (WW r off v.cells)=rs'))else n_
    |none=>n_
  |_=>n_
 |_,_=>n_
def JZ (P:Program)(C:XC)(T:Az)(n:Nat)(h:Dy)(O:O_ (L_ (O_ Nat)×V))(o:Oper)(Y:St)(Z:Prop):O_ (St×Prop):=match o.dst with
 |some d=>bif Nat.ble (d+1) n then match ev1 P C T h o d Y.opd (look Y.hp)with
  |some ⟨v,n_,q⟩=>match O with|none=>X (Y.put d v,Qdb Z q)|some (ms,u)=>X (Y.put d u,Qdb Z q/\v.denil ms=u)
  |some ⟨v,X ob,q⟩=>match look Y.hp d with
   |none=>match O with|none=>X ((Y.set d ob).put d v,Qdb Z q)|some (ms,u)=>X ((Y.set d ob).put d u,Qdb Z q/\v.denil ms=u)
   |some _=>n_
  |none=>n_
  else n_
 |none=>match o.op with
  |.store Tx x y=>match Y.opd x with
   |some p=>match Y.opd y with|some v=>QvW T Tx Y Z p v|none=>n_
   |none=>n_
  |_=>n_
def Qxv (T:Az)(n:Nat)(Y:St)(Z:Prop)(rs':L_ (L_ V))(m:Nat)(d Tx Ty:Nat):V->V->O_ (St×Prop)
 |.own b k,y=>match look Y.hp b with
  |some (.arr z rs)=>match look T.es Tx with
   |some (e,z',by_)=>match look T.zv e with
    |some zs=>bif (look T.es Ty).isSome&&Nat.ble (d+1) n&&!(Nat.ble 621 b)&&Nat.beq z z'&&Nat.beq zs.length z&&!(Nat.beq z 0)&&Nat.ble by_ 32768 then match y with
     |.sl h us=>bif Nat.beq z h then X (Y.app b z d m rs',Z/\(rs.length=k/\decide (k+us.length<=4294967296)=t_/\rs++us=rs'/\k+us.length=m))else n_|.own b' O=>match look Y.hp b' with|some (.arr h us)=>bif Nat.beq z h then X (Y.app b z d m rs',Z/\(rs.length=k/\decide (k+O<=4294967296)=t_/\us.length=O/\rs++us=rs'/\k+O=m))else n_|_=>n_
     |.lit (.slice n_ 0 0)=>X (Y.app b z d k rs,Z/\(rs.length=k/\decide (k<=4294967296)=t_))|_=>n_
     else n_
    |none=>n_
   |none=>n_
  |_=>n_
 |_,_=>n_
def XI {α:Type}(l:L_ (Nat×α)):L_ Nat->O_ (L_ (Nat×α))
 |[]=>X []|t::h=>match look l t with
  |some v=>match XI l h with|some r=>X ((t,v)::r)|none=>n_
  |none=>n_
def V.frzC (b:Nat)(v s:V):V:=match v with|.own o k=>bif Nat.beq o b then s else .own o k|v=>v
def V.frz (b:Nat)(v s:V):V:=match v with|.agg h=>.agg (h.map λv=>v.frzC b s)|v=>v.frzC b s
def Qsx (b:Nat)(rs us:L_ (L_ V)):V->Prop
 |.own o k=>bif Nat.beq o b then k<=rs.length/\rs.take k=us else True|_=>True
def Qhi (b:Nat)(rs us:L_ (L_ V)):L_ V->Prop
 |[]=>True|.own o k::r=>Qsx b rs us (.own o k)/\Qhi b rs us r|_::r=>Qhi b rs us r
def Qxw (b:Nat)(rs us:L_ (L_ V)):V->Prop
 |.agg h=>Qhi b rs us h|v=>Qsx b rs us v
def V.isOwn (b:Nat):V->Bool
 |.own o _=>Nat.beq o b|_=>f_
def V.frzB (b:Nat):V->Bool
 |.agg h=>h.all λc=>c.freeC b||c.isOwn b|v=>v.freeC b||v.isOwn b
def QlG (b:Nat)(s:V)(rs us:L_ (L_ V))(σ0:St):L_ Nat->St->Prop->O_ (St×Prop)
 |[],Y,Z=>X (Y,Z)|t::h,Y,Z=>match look σ0.fr t with|some v=>bif v.frzB b then QlG b s rs us σ0 h (Y.put t (v.frz b s)) (Z/\Qxw b rs us v)else n_|none=>n_
def Qsy (b:Nat)(s:V)(rs us:L_ (L_ V))(σ0:St):L_ Nat->St->Prop->O_ (St×Prop)
 |[],Y,Z=>X (Y,Z)|p::O,Y,Z=>match look σ0.hp p with
  |some (.var h)=>bif !(Nat.beq p b)&&h.all (λc=>c.freeC b||c.isOwn b)&&(look Y.hp p).isSome then Qsy b s rs us σ0 O (Y.set p (.var (h.map λv=>v.frzC b s))) (Z/\Qhi b rs us h)else n_
  |_=>n_
def Qxx (P:Program)(C:XC)(T:Az)(n:Nat):HK->Pt->L_ Fr->St->Prop->O_ Cfg
 |.o h,.o ops (o::l),ks,Y,Z=>match BA ops o (look Y.fr)with
  |some true=>match JZ P C T n h n_ o Y Z with|some (σ',φ')=>X ⟨.o ops l,ks,σ',φ'⟩|none=>n_
  |_=>n_
 |.v h ms u,.o ops (o::l),ks,Y,Z=>match BA ops o (look Y.fr)with
  |some true=>match JZ P C T n h (X (ms,u)) o Y Z with|some (σ',φ')=>X ⟨.o ops l,ks,σ',φ'⟩|none=>n_
  |_=>n_
 |.st r rs,.o ops (o::l),ks,Y,Z=>match BA ops o (look Y.fr)with
  |some true=>match o.dst with
   |none=>match o.op with
    |.store Tx x y=>match Y.opd x with
     |some p=>match Y.opd y with
      |some v=>match storeA T Tx Y Z r rs p v with|some (σ',φ')=>X ⟨.o ops l,ks,σ',φ'⟩|none=>n_
      |none=>n_
     |none=>n_
    |_=>n_
   |some _=>n_
  |_=>n_
 |.app rs m,.o ops (o::l),ks,Y,Z=>match BA ops o (look Y.fr)with
  |some true=>match o.dst with
   |some d=>match o.op with
    |.call c=>match c.callee with
     |.builtin .append=>match c.args.toList with
      |[x,y]=>match c.argTypes.toList with
       |[Tx,Ty]=>match Y.opd x with
        |some p=>match Y.opd y with
         |some v=>match Qxv T n Y Z rs m d Tx Ty p v with|some (σ',φ')=>X ⟨.o ops l,ks,σ',φ'⟩|none=>n_
         |none=>n_
        |none=>n_
       |_=>n_
      |_=>n_
     |_=>n_
    |_=>n_
   |none=>n_
  |_=>n_
 |.x g,.o ops (o::l),ks,Y,Z=>match BA ops o (look Y.fr)with|some true=>X ⟨.o ops l,ks,g Y,Z/\Qf P C o Y (g Y)⟩|_=>n_
 |.cm en M N dead ms outs r,.o ops (o::l),ks,Y,Z=>match BA ops o (look Y.fr)with
  |some true=>match o.dst with
   |some d=>bif Nat.ble (d+1) n then match o.op with
    |.call c=>match Qxu P T Y Z c en with
     |some (f,vs,φ1)=>match cmV P Y φ1 d f vs M N dead ms outs r with|some (σ',φ')=>X ⟨.o ops l,ks,σ',φ'⟩|none=>n_
     |none=>n_
    |_=>n_
    else n_
   |none=>n_
  |_=>n_
 |.br b,.c (.cond c x y),ks,Y,Z=>match Y.opd c with
  |some (.b t)=>match b with|true=>X ⟨.c x,ks,Y,Z/\t=t_⟩|false=>X ⟨.c y,ks,Y,Z/\t=f_⟩
  |_=>n_
 |.say t v,pt,ks,Y,Z=>match look Y.fr t with|some u=>X ⟨pt,ks,Y.put t v,Z/\u=v⟩|none=>n_
 |.sayO b ob,pt,ks,Y,Z=>match look Y.hp b with|some u=>X ⟨pt,ks,Y.set b ob,Z/\u=ob⟩|none=>n_
 |.adopt t b z,pt,ks,Y,Z=>match look Y.fr t with
  |some (.lit (.slice n_ 0 0))=>match look Y.hp b with|none=>bif Nat.ble 621 b then n_ else X ⟨pt,ks,(Y.set b (.arr z [])).put t (.own b 0),Z⟩|some _=>n_
  |_=>n_
 |.denil t ms,pt,ks,Y,Z=>match look Y.fr t with|some v=>X ⟨pt,ks,Y.put t (v.denil ms),Z⟩|none=>n_
 |.denilO b ms,pt,ks,Y,Z=>match look Y.hp b with|some (.var O)=>X ⟨pt,ks,Y.set b (.var (EB ms O)),Z⟩|_=>n_
 |.ren o o',pt,ks,Y,Z=>bif !(Nat.ble 619 o)&&!(Nat.ble 619 o')&&(look Y.hp o').isNone then X ⟨pt,ks,Y.ren o o',Z⟩else n_|.kill b,pt,ks,Y,Z=>X ⟨pt,ks,Y.kill b,Z⟩|.frz b us ts os,pt,ks,Y,Z=>match look Y.hp b with
  |some (.arr z rs)=>bif !(Nat.ble 619 b)then match QlG b (.sl z us) rs us Y ts (Y.kill b) True with
   |some (σ1,φ1)=>match Qsy b (.sl z us) rs us Y os σ1 φ1 with|some (σ2,φ2)=>X ⟨pt,ks,σ2,Z/\φ2⟩|none=>n_
   |none=>n_
   else n_
  |_=>n_
 |.adoptO p i b z,pt,ks,Y,Z=>match look Y.hp p with
  |some (.var O)=>match O[i]? with
   |some (.lit (.slice n_ 0 0))=>match look Y.hp b with|none=>bif Nat.beq p b||Nat.ble 621 b then n_ else X ⟨pt,ks,(Y.set b (.arr z [])).set p (.var (O.set i (.own b 0))),Z⟩|some _=>n_
   |_=>n_
  |_=>n_
 |.keep ts os,pt,ks,Y,Z=>match XI Y.fr ts with
  |some fr=>match XI Y.hp os with|some hp=>bif St.closed ⟨fr,hp⟩then X ⟨pt,ks,⟨fr,hp⟩,Z⟩else n_|none=>n_
  |none=>n_
 |_,_,_,_,_=>n_
def plain (P:Program)(C:XC)(T:Az)(n:Nat):Nat->Pt->L_ Fr->St->Prop->O_ Cfg
 |0,pt,ks,Y,Z=>X ⟨pt,ks,Y,Z⟩|k+1,.o ops (o::l),ks,Y,Z=>match BA ops o (look Y.fr)with
  |some true=>match JZ P C T n .no n_ o Y Z with|some (σ',φ')=>plain P C T n k (.o ops l) ks σ' φ'|none=>n_
  |some false=>match o.dst with|some d=>bif Nat.ble (d+1) n then plain P C T n k (.o ops l) ks (Y.put d (.lit undef)) Z else n_|none=>plain P C T n k (.o ops l) ks Y Z
  |none=>n_
 |k+1,pt,ks,Y,Z=>match ctl pt ks Y with|some (O,h)=>plain P C T n k O h Y Z|none=>n_
def go (P:Program)(C:XC)(T:Az)(n:Nat):L_ HK->Pt->L_ Fr->St->Prop->O_ Cfg
 |[],pt,ks,Y,Z=>X ⟨pt,ks,Y,Z⟩|.n k::ds,pt,ks,Y,Z=>match plain P C T n k pt ks Y Z with|some ⟨O,h,σ',φ'⟩=>go P C T n ds O h σ' φ'|none=>n_
 |d::ds,pt,ks,Y,Z=>match Qxx P C T n d pt ks Y Z with|some ⟨O,h,σ',φ'⟩=>go P C T n ds O h σ' φ'|none=>n_
section
variable {P:Program}{C:XC}{T:Az}{Q:Exit->St->Prop}{n:Nat}{Z:Nat->O_ Xh}{Y:St}{a:Act}{w:World}
def QuE (P:Program)(C:XC)(Q:Exit->St->Prop)(pt:Pt)(ks:L_ Fr)(Y:St)(Z:Prop)(c:Cfg):Prop:=c.Z->Z/\(AK P C Q c.pt c.ks c.Y->AK P C Q pt ks Y)
def Qdc {Z:Prop}{q:O_ Prop}{v:V}{ob:O_ Ob}(h:Qdb Z q):Z/\Rs.holds ⟨v,ob,q⟩:=by
 cases q with|none=>exact⟨h,trivial⟩|some p=>exact h
def QvX {pt pt':Pt}{ks O:L_ Fr}{Y:St}(h:ctl pt ks Y=X (pt',O))(k:AK P C Q pt' O Y):AK P C Q pt ks Y:=by
 unfold ctl at h;split at h
 ·cases h;exact AK.seq k
 ·cases h;exact AK.block k
 ·cases h;exact AK.region k
 ·cases h;exact AK.skip k
 ·cases h;exact AK.label k
 ·cases h;exact AK.exit k
 ·cases h;exact AK.ret k
 ·split at h
  ·rename_i hc;cases h;exact YX.cond_true hc k
  ·rename_i hc;cases h;exact YX.cond_false hc k
  cases h
 ·cases h;exact AK.nil k
 ·cases h;exact AK.popSeq k
 ·cases h;exact AK.popBlk k
 ·cases h;exact AK.exSeq k
 ·cases h;exact AK.exCut k
 ·rename_i _ i j ks;cases hb:Nat.beq i j with
  |true=>rw[hb]at h;cases h;exact AK.exBlk hb k
  |false=>rw[hb]at h;cases h;exact AK.exBlk' hb k
 ·cases h;exact AK.retPop k
 cases h
def Qbl {ops:Array Oper}{o:Oper}{f:Nat->O_ V}{b:Bool}(h:BA ops o f=X b):
  (o.guard=n_/\b=t_)\/∃j t d,o.guard=X (j,t)/\((ops[j]?).bind (·.dst))=X d/\((∃u,f d=X (.b u)/\b=(u==t))\/(f d=X (.lit undef)/\b=f_)):=by
 unfold BA at h;split at h
 ·rename_i hg;cases h;exact .inl ⟨hg,rfl⟩
 rename_i j t hg;split at h
 ·rename_i oj hj;split at h
  ·rename_i d hd;have hjd:((ops[j]?).bind (·.dst))=X d:=by rw[hj];exact hd
   refine .inr ⟨j,t,d,hg,hjd,?_⟩;split at h
   ·rename_i O;cases h;exact .inl ⟨t_,O,by simp⟩
   ·rename_i O;cases h;exact .inl ⟨f_,O,by simp⟩
   ·rename_i v _ _ O;obtain⟨h1,h⟩:=Yn h;cases h;exact .inr ⟨by rw[O,V.isUnd_eq h1],rfl⟩
   cases h
  cases h
 cases h
def AL.want {ops:Array Oper}{o:Oper}{l:L_ Oper}{Y σ':St}{Q:Exit->St->Prop}(h:BA ops o (look Y.fr)=X t_)(hs:Qf P C o Y σ')(k:AL P C ops l σ' Q):AL P C ops (o::l) Y Q:=by
 rcases Qbl h with⟨hg,_⟩|⟨j,t,d,hg,hj,⟨u,hu,O⟩|⟨_,O⟩⟩
 ·exact AL.cons hg hs k
 ·have:u=t:=by simpa using O.symm
  exact AL.consGT hg hj hu this hs k
 cases O
def AL.pass {ops:Array Oper}{o:Oper}{l:L_ Oper}{Y:St}{Q:Exit->St->Prop}{d:Nat}(h:BA ops o (look Y.fr)=X f_)(hd:o.dst=X d)(hn:B_ d C)(k:AL P C ops l (Y.put d (.lit undef)) Q):AL P C ops (o::l) Y Q:=by
 rcases Qbl h with⟨_,O⟩|⟨j,t,e,hg,hj,⟨u,hu,O⟩|⟨hu,_⟩⟩
 ·cases O
 ·have:u=!t:=by cases u<;>cases t<;>first|rfl|cases O
  exact AL.consNT hg hj hu this hd hn k
 exact AL.consU hg hj hu hd hn k
def AL.pass0 {ops:Array Oper}{o:Oper}{l:L_ Oper}{Y:St}{Q:Exit->St->Prop}(h:BA ops o (look Y.fr)=X f_)(hd:o.dst=n_)(k:AL P C ops l Y Q):AL P C ops (o::l) Y Q:=by
 rcases Qbl h with⟨_,O⟩|⟨j,t,e,hg,hj,⟨u,hu,O⟩|⟨hu,_⟩⟩
 ·cases O
 ·have:u=!t:=by cases u<;>cases t<;>first|rfl|cases O
  exact AL.consNT0 hg hj hu this hd k
 exact AL.consU0 hg hj hu hd k
def RR.putDenil {d:Nat}{v:V}{ms:L_ (O_ Nat)}(h:RR C Z (Y.put d v) a w):RR C Z (Y.put d (v.denil ms)) a w:=by
 obtain⟨x,hx,hrep⟩:=h.frame d v (QD _ _ _);refine(h.say hx (hrep.denil (ms:=ms))).le λt u O=>?_;by_cases e:d=t
 ·subst e;have O:look ((d,v.denil ms)::Y.fr) d=X u:=O;rw[QD]at O;show look ((d,v.denil ms)::_) d=X u;rw[QD];exact O
 have O:look ((d,v.denil ms)::Y.fr) t=X u:=O;rw[QA _ _ e]at O;show look ((d,v.denil ms)::(d,v)::Y.fr) t=X u;rw[QA _ _ e,QA _ _ e];exact O
def Qf.denil {o:Oper}{Y σ':St}{d:Nat}{v:V}{ms:L_ (O_ Nat)}(h:Qf P C o Y (σ'.put d v)):Qf P C o Y (σ'.put d (v.denil ms)):=
 λa w hR next Q hn=>h a w hR next Q λO w' ⟨Z,hr⟩=>hn O w' ⟨Z,hr.putDenil⟩
def QiZ {h:Dy}{sv:O_ (L_ (O_ Nat)×V)}{o:Oper}{Y σ':St}{Z φ':Prop}(ok:Ek P T)(hN:Ki P C n)(e:JZ P C T n h sv o Y Z=X (σ',φ'))(hφ:φ'):Z/\Qf P C o Y σ':=by
 have hn:=hN.n;unfold JZ at e;split at e
 ·rename_i d hd;replace e:=Yn e;obtain⟨e1,e⟩:=e;rw[<-hn]at e1;split at e
  ·rename_i v q O;have key:∀q':Prop,Qdb Z q/\q'->Z/\Qf P C o Y (Y.put d v):=λq' h=>by
    obtain⟨a,b⟩:=Qdc h.1;exact⟨a,QiY ok hd e1 hN.g (λ_ _ h=>h) (λ_ _ h=>h) O b (λh=>by cases h)⟩
   split at e
   ·cases e;exact key True ⟨hφ,trivial⟩
   cases e;obtain⟨a,b⟩:=hφ;subst b;obtain⟨a1,a2⟩:=key True ⟨a,trivial⟩;exact⟨a1,a2.denil⟩
  ·rename_i v ob q O;split at e
   ·rename_i hl;have key:∀q':Prop,Qdb Z q/\q'->Z/\Qf P C o Y ((Y.set d ob).put d v):=λq' h=>by
     obtain⟨a,b⟩:=Qdc h.1;exact⟨a,QiY ok hd e1 hN.g (λ_ _ h=>h) (λ_ _ h=>h) O b (λ_=>hl)⟩
    split at e
    ·cases e;exact key True ⟨hφ,trivial⟩
    cases e;obtain⟨a,b⟩:=hφ;subst b;obtain⟨a1,a2⟩:=key True ⟨a,trivial⟩;exact⟨a1,a2.denil⟩
   cases e
  cases e
 rename_i hd;split at e
 ·rename_i Tx x y ho;split at e
  ·rename_i p hp;split at e
   ·rename_i v hv;unfold QvW at e;split at e
    ·rename_i b i off v;split at e
     ·rename_i cs hb;split at e
      ·split at e
       ·rename_i k hk;replace e:=Yn e;obtain⟨e2,e⟩:=e;cases e;simp only[QN]at e2;obtain⟨⟨⟨a1,a2⟩,a3⟩,a4⟩:=e2;exact⟨hφ,Qf.storeL ho hd hp hb hv (V.isV_or a1) (ok.sz hk) (Yp a2) a3 a4 rfl⟩
       cases e
      cases e
     cases e
    cases e
   cases e
  cases e
 cases e
def QuF {o:Oper}{Y σ':St}{Z φ':Prop}{rs':L_ (L_ V)}{m d Tx Ty:Nat}{x y:Operand}{p v:V}(ok:Ek P T)(hN:Ki P C n)(ho:o.op=.call { callee:=.builtin .append,args:=#[x,y],argTypes:=#[Tx,Ty] })(hd:o.dst=X d)
  (hx:Y.opd x=X p) (hy:Y.opd y=X v) (e:Qxv T n Y Z rs' m d Tx Ty p v=X (σ',φ')) (hφ:φ'):Z/\Qf P C o Y σ':=by
 have hn:=hN.n;unfold Qxv at e;split at e
 ·rename_i b k y';split at e
  ·rename_i z rs hb;split at e
   ·rename_i et z' by_ O;split at e
    ·rename_i zs hz;replace e:=Yn e;obtain⟨e1,e⟩:=e;simp only[QN,Ga]at e1;obtain⟨⟨⟨⟨⟨⟨a1,a2⟩,a3⟩,a4⟩,a5⟩,a6⟩,a7⟩:=e1;have a4:=Yp a4;subst a4;have a5:=Yp a5;have a6:z≠0:=λh=>by rw[h]at a6;cases a6
     rw[<-hn]at a2;obtain⟨⟨e2,z2,by2⟩,hU⟩:∃q,YD P Ty=X q:=by
      cases hl:look T.es Ty with
      |none=>rw[hl]at a1;cases a1
      |some q=>exact⟨q,ok.es hl⟩
     split at e
     ·rename_i z'' us;replace e:=Yn e;obtain⟨e3,e⟩:=e;have:=Yp e3;subst this;cases e;obtain⟨h,h1,h2,h3,h4⟩:=hφ;exact⟨h,Qf.appS ho hd a2 hx hb a3 h1 (ok.es O) hU (ok.zv hz) a5 a6 a7 h2 hy h3 h4⟩
     ·rename_i b' k';split at e
      ·rename_i z'' us hb';replace e:=Yn e;obtain⟨e3,e⟩:=e;have:=Yp e3;subst this;cases e;obtain⟨h,h1,h2,h3,h4,h5⟩:=hφ;exact⟨h,Qf.appO ho hd a2 hx hb a3 h1 (ok.es O) hU (ok.zv hz) a5 a6 a7 h2 hy hb' h3 h4 h5⟩
      cases e
     ·cases e;obtain⟨h,h1,h2⟩:=hφ;exact⟨h,Qf.appN ho hd a2 hx hb a3 h1 (ok.es O) hU (ok.zv hz) a5 a6 a7 h2 hy⟩
     cases e
    cases e
   cases e
  cases e
 cases e
def Qsz {o:Oper}{Y σ':St}{Z φ':Prop}{O:TypeId}{x y:Operand}{p v:V}{r:L_ V}{rs':L_ (L_ V)}(ok:Ek P T)(ho:o.op=.store O x y)(hd:o.dst=n_)(hx:Y.opd x=X p)(hy:Y.opd y=X v)
  (e:storeA T O Y Z r rs' p v=X (σ',φ')) (h:φ'):Z/\Qf P C o Y σ':=by
 unfold storeA at e;split at e
 ·rename_i b i off v;split at e
  ·rename_i z rs hb;split at e
   ·rename_i k hk;replace e:=Yn e;obtain⟨e2,e⟩:=e;cases e;simp only[QN]at e2;obtain⟨⟨⟨⟨a1,a2⟩,a3⟩,a4⟩,a5⟩:=e2;exact⟨h.1,Qf.storeA ho hd hx hb h.2.1 hy (V.isV_or a1) (ok.sz hk) (Yp a2) a3 a4 a5 h.2.2⟩
   cases e
  cases e
 cases e
def R.say {Y:St}{t:Nat}{v:V}(h:∃u,look Y.fr t=X u/\u=v){a:Act}{w:World}(hR:R C Y a w):R C (Y.put t v) a w:=by
 obtain⟨u,hu,rfl⟩:=h;obtain⟨Z,hr⟩:=hR;obtain⟨x,hx,O⟩:=hr.frame t _ hu;exact⟨Z,hr.say hx O⟩
def RR.sayOb (h:RR C Z Y a w){b:Nat}{ob ob':Ob}(hb:look Y.hp b=X ob)(hs:∀B,Z b=X B->KH Z (Xp C Z w) w B ob->KH Z (Xp C Z w) w B ob')(he:ob=ob'\/¬ob.Nil):RR C Z (Y.set b ob') a w:=by
 rcases he with rfl|hne
 ·refine⟨h.os,h.tape,h.output,h.size,h.kept,h.inj,λo B hB=>?_,h.lt,h.new,h.stay.set hb,h.tmps,h.defers,h.frame,λo ob'' O=>?_⟩
  ·by_cases e:o=b
   ·subst e;exact⟨_,Y.look_set_same _ _⟩
   rw[Y.look_set_other _ (Ne.symm e)];exact h.dom o B hB
  by_cases e:o=b
  ·subst e;rw[Y.look_set_same]at O;cases O;exact h.heap _ _ hb
  rw[Y.look_set_other _ (Ne.symm e)]at O;exact h.heap _ _ O
 exact h.say' hb hs hne
def R.sayO {Y:St}{b:Nat}{ob:Ob}(h:∃u,look Y.hp b=X u/\u=ob){a:Act}{w:World}(O:R C Y a w):R C (Y.set b ob) a w:=by
 obtain⟨u,hu,rfl⟩:=h;obtain⟨Z,hr⟩:=O;exact⟨Z,hr.sayOb hu (λ_ _ h=>h) (.inl rfl)⟩
def R.denil {Y:St}{t:Nat}{v:V}{ms:L_ (O_ Nat)}(h:look Y.fr t=X v){a:Act}{w:World}(hR:R C Y a w):R C (Y.put t (v.denil ms)) a w:=by
 obtain⟨Z,hr⟩:=hR;obtain⟨x,hx,O⟩:=hr.frame t _ h;exact⟨Z,hr.say hx O.denil⟩
def R.denilO {Y:St}{b:Nat}{cs:L_ V}{ms:L_ (O_ Nat)}(h:look Y.hp b=X (.var cs)){a:Act}{w:World}(hR:R C Y a w):R C (Y.set b (.var (EB ms cs))) a w:=by
 obtain⟨Z,hr⟩:=hR;refine⟨Z,hr.sayOb h (λB hB O=>?_) (.inr λe=>e.elim)⟩;obtain⟨xs,E,h1,h2,h0,h3⟩:=O;refine⟨xs,E,h1,by rw[Qg9];exact h2,h0,λj x v hx hv=>?_⟩;obtain⟨m,v',hv',rfl⟩:=Qc7 _ _ j v hv;exact(h3 j x v' hx hv').den1
section
variable {hp:H_}{g:Bool}{bad:L_ Nat}{m:Nat->Nat->Prop}{bk:Nat->O_ Nat}
def Qi0 (hm:∀a b,bk a=X b->m a b):∀(v:V) {u:V},trC bk v=X u->Vw hp g f_ bad m v u
 |.own a n,u,h=>by rw[trC]at h;split at h<;>first|(rename_i b O;cases h;exact .own _ _ _ (hm _ _ O))|cases h
 |.loc a i d,u,h=>by rw[trC]at h;split at h<;>first|(rename_i b O;cases h;exact .loc _ _ _ _ (hm _ _ O))|cases h
 |.map a,u,h=>by rw[trC]at h;split at h<;>first|(rename_i b O;cases h;exact .map _ _ (hm _ _ O))|cases h
 |.ifc t x,u,h=>by
  rw[trC]at h;split at h
  ·rename_i y hy;cases h;exact .ifc _ _ _ (Qi0 hm x hy)
  cases h
 |.b _,u,h | .i _ _,u,h | .s _,u,h | .sl _ _,u,h | .sln _ _ _,u,h | .e0,u,h | .ro _,u,h | .agg _,u,h | .tup _,u,h | .clo _ _ _,u,h | .lit _,u,h | .J,u,h=>by
  have h:=Yn (show(bif V.datA _ then X _ else n_)=X u from h);obtain⟨h1,h2⟩:=h;cases h2;exact .dat _ h1 (λe=>by cases e)
def Qbm (hm:∀a b,bk a=X b->m a b):∀{vs us:L_ V},trL bk vs=X us->vs.length=us.length/\∀(j:Nat) c u,vs[j]? = X c->us[j]? = X u->Vw hp g f_ bad m c u:=by
 intro vs
 induction vs with
 |nil=>intro us h;cases h;simp
 |cons v vs ih=>
  intro us h;rw[trL]at h;split at h
  ·rename_i u hu;split at h
   ·rename_i us' hus;cases h;obtain⟨a,b⟩:=ih hus;refine⟨by simp[a],λj c w O hw=>?_⟩;cases j with|zero=>simp at O hw;subst O;subst hw;exact Qi0 hm _ hu|succ j=>simp at O hw;exact b j c w O hw
   cases h
  cases h
def TW (hm:∀a b,bk a=X b->m a b){v u:V}(h:trV bk v=X u):Vw hp g f_ bad m v u:=by
 unfold trV at h;split at h
 ·rename_i cs;cases hd:(V.agg cs).datA with
  |true=>rw[hd]at h;cases h;exact .dat _ hd (λe=>by cases e)
  |false=>
   rw[hd]at h;dsimp only[cond_false]at h;split at h
   ·rename_i us O;cases h;obtain⟨a,b⟩:=Qbm hm O;exact .agg _ _ a b
   cases h
 ·rename_i cs;cases hd:(V.tup cs).datA with
  |true=>rw[hd]at h;cases h;exact .dat _ hd (λe=>by cases e)
  |false=>
   rw[hd]at h;dsimp only[cond_false]at h;split at h
   ·rename_i us O;cases h;obtain⟨a,b⟩:=Qbm hm O;exact .tup _ _ a b
   cases h
 ·split at h
  ·rename_i us O;split at h
   ·rename_i ds hds;cases h;obtain⟨a,b⟩:=Qbm hm O;obtain⟨a',b'⟩:=Qbm hm hds;exact .clo _ _ _ _ _ a a' b b'
   cases h
  cases h
 exact Qi0 hm _ h
def QnO (hm:∀a b,bk a=X b->m a b):∀{vs us:L_ V},Qsw bk vs=X us->vs.length=us.length/\∀(j:Nat) c u,vs[j]? = X c->us[j]? = X u->Vw hp g f_ bad m c u:=by
 intro vs
 induction vs with
 |nil=>intro us h;cases h;simp
 |cons v vs ih=>
  intro us h;rw[Qsw]at h;split at h
  ·rename_i u hu;split at h
   ·rename_i us' hus;cases h;obtain⟨a,b⟩:=ih hus;refine⟨by simp[a],λj c w O hw=>?_⟩;cases j with|zero=>simp at O hw;subst O;subst hw;exact TW hm hu|succ j=>simp at O hw;exact b j c w O hw
   cases h
  cases h
def QvY (hm:∀a b,bk a=X b->m a b){ob ob':Ob}(h:trO bk ob=X ob'):ObW hp g f_ bad m ob ob':=by
 unfold trO at h;split at h
 ·split at h
  ·rename_i us O;cases h;obtain⟨a,b⟩:=QnO hm O;exact .var _ _ a b
  cases h
 ·split at h
  ·rename_i us O;cases h;obtain⟨a,b⟩:=QnO hm O;exact .lp _ _ _ _ _ a b
  cases h
 ·cases h;exact .arr _ _ (λe=>by cases e)
 ·cases h;exact .map _ (λe=>by cases e)
 ·cases h;exact .grp _ _ _ rfl
 ·cases h;exact .tbl _ _ _ rfl
 cases h
def Se (hm:∀a b,bk a=X b->m a b):∀{ms:L_ Mode} {vs us:L_ V},Vs bk ms vs=X us->Vws hp g f_ bad m vs us:=by
 intro ms
 induction ms with
 |nil=>intro vs us h;cases vs with
  |nil=>cases h;exact .nil
  |cons=>cases h
 |cons md ms ih=>
  intro vs us h;cases vs with
  |nil=>cases h
  |cons v vs=>
   rw[Vs]at h;split at h
   ·rename_i u O;split at h
    ·rename_i us' hus;cases h;refine .cons ?_ (ih hus);unfold QzH at O;split at O
     ·cases O;exact .nil _
     ·exact TW hm O
     ·rename_i n cs;split at O
      ·rename_i us2 hus2;split at O
       ·rename_i hj;cases O;obtain⟨a,b⟩:=Qbm hm hus2;refine .agg _ _ (by rw[<-a];simp) λj c w hc hw=>?_;by_cases e:j=n
        ·subst e;rw[hj]at hw;cases hw;exact .forget _
        exact b j c w (by rw[List.getElem?_set,if_neg (Ne.symm e)];exact hc) hw
       cases O
      cases O
     cases O
    cases h
   cases h
def UR (hm:∀a b,bk a=X b->m a b){src:H_}:∀{M:L_ (Nat×Nat)} {l:H_},Nm bk (look src) M=X l->Rx hp g f_ bad m src M l:=by
 intro M
 induction M with
 |nil=>intro l h;cases h;exact .nil
 |cons p M ih=>
  intro l h;obtain⟨d,s⟩:=p;rw[Nm]at h;split at h
  ·rename_i ob hob;split at h
   ·rename_i ob' O;split at h
    ·rename_i l' hl;cases h;exact .cons hob (QvY hm O) (ih hl)
    cases h
   cases h
  cases h
def MZ : ∀{M:L_ (Nat×Nat)} {a b:Nat},UO M a=X b->(b,a)∈M:=by
 intro M
 induction M with
 |nil=>intro a b h;cases h
 |cons p M ih=>
  intro a b h;obtain⟨b',a'⟩:=p;rw[UO]at h;cases O:Nat.beq a' a with
  |true=>rw[O]at h;cases h;rw[Yp O];exact Yc
  |false=>rw[O]at h;exact Ys _ (ih h)
end
def QuG {o:Oper}{Y:St}{Z φ':Prop}{c:Call}{en:Ent}{f:Nat}{vs:L_ V}(ok:Ek P T)(ho:o.op=.call c)(e:Qxu P T Y Z c en=X (f,vs,φ'))(hφ:φ'):Z/\JP P C o Y f vs:=by
 obtain⟨ce,ags,ts⟩:=c;unfold Qxu at e;split at e
 ·split at e
  ·rename_i f' O;dsimp only at O;subst O;replace e:=Yn e;obtain⟨e1,e⟩:=e;split at e
   ·rename_i vs' hv;cases e;exact⟨hφ,JP.fn ho (ok.en e1) (Cj (λ_ _ h=>h) hv)⟩
   cases e
  cases e
 ·split at e
  ·rename_i x O;dsimp only at O;subst O;split at e
   ·rename_i f' fs cs hx;replace e:=Yn e;obtain⟨e1,e⟩:=e;split at e
    ·rename_i vs' hv;cases e;exact⟨hφ,JP.clo ho hx (ok.en e1) (Cj (λ_ _ h=>h) hv)⟩
    cases e
   cases e
  cases e
 ·split at e
  ·rename_i x name O;dsimp only at O;subst O;split at e
   ·rename_i t u hx;replace e:=Yn e;obtain⟨e1,e⟩:=e;split at e
    ·rename_i vs' hv;cases e;exact⟨hφ.1,JP.meth (r:=u) ho hx hφ.2 (ok.en e1) (Cj (λ_ _ h=>h) hv)⟩
    cases e
   cases e
  cases e
 split at e
 ·rename_i x name O;dsimp only at O;subst O;split at e
  ·rename_i t b off hx;split at e
   ·rename_i cs hb;split at e
    ·rename_i r hr0;replace e:=Yn e;obtain⟨e1,e⟩:=e;split at e
     ·rename_i vs' hv;cases e;exact⟨hφ.1,JP.methV ho hx hφ.2.1 hφ.2.2.1 hφ.2.2.2 hb hr0 (ok.en e1) (Cj (λ_ _ h=>h) hv)⟩
     cases e
    cases e
   cases e
  cases e
 cases e
def QvZ {o:Oper}{Y σ':St}{Z φ':Prop}{d f:Nat}{vs:L_ V}{M N:L_ (Nat×Nat)}{dead:L_ Nat}{ms:L_ Mode}{outs:H_}{r:V}(hE:JP P C o Y f vs)(hd:o.dst=X d)(hn:B_ d C)(hpg:C.pg P)
  (e:cmV P Y Z d f vs M N dead ms outs r=X (σ',φ')) (hφ:φ'):Z/\Qf P C o Y σ':=by
 unfold cmV at e;replace e:=Yn e;obtain⟨e1,e⟩:=e;simp only[QN]at e1;obtain⟨⟨h1,h2⟩,h3⟩:=e1;have h2:=ED.1 h2;have h3:=ED.1 h3;have O:OG M=t_/\OG N=t_:=by
  simp only[Ug,QN]at h1;exact⟨h1.1.1.1,h1.1.1.2⟩
 have mM:∀a b,UO M a=X b->look M b=X a:=λa b h=>Dc O.1 (MZ h) h2;have mN:∀a b,UO N a=X b->look N b=X a:=λa b h=>Dc O.2 (MZ h) h3;split at e
 ·rename_i us hus;split at e
  ·rename_i hsC hC;split at e
   ·rename_i hsN hN;split at e
    ·rename_i r' hr;cases e;exact⟨hφ.1,Qf.callM (g:=f_) hE hd hn hpg h1 h2 (Se mM hus) (UR mM hC) hφ.2 (UR mN hN) (TW mN hr)⟩
    cases e
   cases e
  cases e
 cases e
def Qxy {l:S_}:∀{O:L_ Nat} {r:S_},XI l O=X r->Ps l r:=by
 intro O
 induction O with
 |nil=>intro r h;cases h;trivial
 |cons t O ih=>
  intro r h;rw[XI]at h;split at h
  ·rename_i v hv;split at h
   ·rename_i r' hr;cases h;exact⟨hv,ih hr⟩
   cases h
  cases h
def Qxz {l:H_}:∀{O:L_ Nat} {r:H_},XI l O=X r->LB l r:=by
 intro O
 induction O with
 |nil=>intro r h;cases h;trivial
 |cons t O ih=>
  intro r h;rw[XI]at h;split at h
  ·rename_i v hv;split at h
   ·rename_i r' hr;cases h;exact⟨hv,ih hr⟩
   cases h
  cases h
def RR.thawN {β:Nat}(hβ:β<=C.w0.heap.size)(hr:RR C Z Y a w){b n z:Nat}{rs us:L_ (L_ V)}(hp:Nat.ble 619 b=f_)(hb:look Y.hp b=X (.arr z rs)){x:Value}(hrep:QW Z (Xp C Z w) w x (.own b n))(hle:n<=rs.length)(hu:rs.take n=us):
  XG (Xp C (BQ Z b) w) w x (.sln β z us):=by
 subst hu;rcases hrep.own_inv with⟨rfl,rfl⟩|⟨B,hB,O,rfl⟩
 ·simp only[List.take_zero];exact .sln0 _ _ _ _
 obtain⟨rfl,hrl,hok,cs,E,h1,h2,h3⟩:=hr.block hB hb;have hnew:C.w0.heap.size<=B.b:=by
  have hb':b<619:=by
   rcases DP b 619 with h|h
   ·exact h
   rw[Vp h]at hp;cases hp
  exact hr.new b B _ hB B.self hb'
 have hIb:Xp C (BQ Z b) w B.b:=by
  refine⟨(hr.lt b B _ hB B.self).1,λhlt=>by omega,λo B' hB' e=>?_⟩;obtain⟨h4,h5⟩:=WH hB';exact h4 (hr.inj o b B' B _ h5 hB e B.self)
 have hle2:n*B.z<=B.cap*B.z:=Jr _ O;refine .sln β B.b B.off n B.cap B.z _ cs E (Yq hβ hnew) hIb (by simp;omega) O (λr hr'=>hok r (FQ hr')) h1 (by omega) (λi r hi j v hj=>?_);have hi':rs[i]? = X r:=by
  rw[Kd]at hi;by_cases hin:i<n
  ·rwa[if_pos hin]at hi
  rw[if_neg hin]at hi;simp at hi
 obtain⟨y,hy,hd⟩:=h3 i r hi' j v hj;have:cs.getD (B.off+(i*B.z+j)) undef=y:=by simp[QfA,hy]
 rw[this];exact hd.mono λk hk=>⟨hk.of_del,rfl⟩
def RR.thaw (hr:RR C Z Y a w){b n z:Nat}{rs us:L_ (L_ V)}(hp:Nat.ble 619 b=f_)(hb:look Y.hp b=X (.arr z rs)){x:Value}(h:QW Z (Xp C Z w) w x (.own b n))(O:n<=rs.length)(hu:rs.take n=us):
  QW (BQ Z b) (Xp C (BQ Z b) w) w x (.sl z us):=.dat (hr.thawN (Ii _) hp hb h O hu).lo1
def Frz (C:XC)(s:V)(z:Nat)(us:L_ (L_ V)):Prop:=s=.sl z us\/∃β,s=.sln β z us/\β<=C.w0.heap.size
def RR.thawU {s:V}{z:Nat}{us:L_ (L_ V)}(hs:Frz C s z us)(hr:RR C Z Y a w){b n:Nat}{rs:L_ (L_ V)}(hp:Nat.ble 619 b=f_)(hb:look Y.hp b=X (.arr z rs)){x:Value}(h:QW Z (Xp C Z w) w x (.own b n))(O:n<=rs.length)(hu:rs.take n=us):
  QW (BQ Z b) (Xp C (BQ Z b) w) w x s:=by
 rcases hs with rfl|⟨β,rfl,hβ⟩
 ·exact hr.thaw hp hb h O hu
 exact .dat (hr.thawN hβ hp hb h O hu)
section
variable {b z:Nat}{rs us:L_ (L_ V)}{σ0:St}{s:V}
def RR.frzC (hs:Frz C s z us)(hr:RR C Z Y a w)(hp:Nat.ble 619 b=f_)(hb:look Y.hp b=X (.arr z rs)){x:Value}{v:V}(h:QW Z (Xp C Z w) w x v)(hq:Qsx b rs us v)(O:v.freeC b=t_\/∃k,v=.own b k):
  QW (BQ Z b) (Xp C (BQ Z b) w) w x (v.frzC b s):=by
 rcases O with O|⟨k,rfl⟩
 ·have:v.frzC b s=v:=by
   unfold V.frzC;split
   ·rename_i o k;have:Nat.beq o b=f_:=by simpa[V.freeC,V.freeN] using O
    rw[this];rfl
   rfl
  rw[this];exact QW.freeC (λo B ho hB=>by rw[EW ho];exact hB) (λk hk=>⟨hk.of_del,rfl⟩) h O
 have e:Nat.beq b b=t_:=Nat.beq_refl b;simp only[Qsx,e,Qr]at hq;simp only[V.frzC,e,Qr];exact RR.thawU hs hr hp hb h hq.1 hq.2
def QqV {O:L_ V}(h:Qhi b rs us O):∀(j:Nat) v,O[j]? = X v->Qsx b rs us v:=by
 induction O with
 |nil=>intro j v hj;simp at hj|cons c O ih=>
  intro j v hj;have h2:Qhi b rs us O:=by
   unfold Qhi at h;split at h
   ·rename_i e;cases e
   ·rename_i e;cases e;exact h.2
   rename_i e;cases e;exact h
  cases j with
  |zero=>
   simp at hj;subst hj;cases c with|own o k=>exact h.1|_=>trivial
  |succ j=>exact ih h2 j v (by simpa using hj)
end
section
variable {b z:Nat}{rs us:L_ (L_ V)}{σ0:St}{s:V}
def QsA {v:V}(h:(v.freeC b||v.isOwn b)=t_):v.freeC b=t_\/∃k,v=.own b k:=by
 rw[KG]at h;rcases h with h|h
 ·exact .inl h
 unfold V.isOwn at h;split at h
 ·rename_i o k;rw[Yp h];exact .inr ⟨k,rfl⟩
 cases h
def RR.frzV (hz:Frz C s z us)(hr:RR C Z σ0 a w)(hp:Nat.ble 619 b=f_)(hb:look σ0.hp b=X (.arr z rs)){x:Value}{v:V}(h:QW Z (Xp C Z w) w x v)(hq:Qxw b rs us v)(hf:v.frzB b=t_):
  QW (BQ Z b) (Xp C (BQ Z b) w) w x (v.frz b s):=by
 unfold V.frz;unfold Qxw at hq;unfold V.frzB at hf;split at hq
 ·rename_i cs;obtain⟨xs,rfl,hs,hc⟩:=h.agg_inv;refine .agg xs _ (by simpa using hs) λj y u hy hu=>?_;rw[Yj]at hu;obtain⟨c,O,rfl⟩:=Yo.1 hu;dsimp only at hf;rw[XS]at hf;exact RR.frzC hz hr hp hb (hc j y c hy O) (QqV hq j c O) (QsA (hf c (XB O)))
 rename_i hne;have hf':(v.freeC b||v.isOwn b)=t_:=by
  split at hf
  ·exact absurd rfl (hne _)
  exact hf
 exact RR.frzC hz hr hp hb h hq (QsA hf')
def QuH (hs:Frz C s z us)(hr:RR C Z σ0 a w)(hp:Nat.ble 619 b=f_)(hb:look σ0.hp b=X (.arr z rs)):∀{ts:L_ Nat} {Y σ':St} {ψ ψ':Prop},QlG b s rs us σ0 ts Y ψ=X (σ',ψ')->ψ'->ψ/\(RR C (BQ Z b) Y a w->RR C (BQ Z b) σ' a w):=by
 intro ts
 induction ts with
 |nil=>intro Y σ' ψ ψ' h h';cases h;exact⟨h',id⟩
 |cons t ts ih=>
  intro Y σ' ψ ψ' h h';rw[QlG]at h;split at h
  ·rename_i v hv;replace h:=Yn h;obtain⟨h0,h⟩:=h;obtain⟨⟨h1,h2⟩,h3⟩:=ih h h';refine⟨h1,λk=>h3 ?_⟩;obtain⟨x,hx,O⟩:=hr.frame t v hv;exact k.say hx (RR.frzV hs hr hp hb O h2 h0)
  cases h
def QuI (hs:Frz C s z us)(hr:RR C Z σ0 a w)(hp:Nat.ble 619 b=f_)(hb:look σ0.hp b=X (.arr z rs)):∀{os:L_ Nat} {Y σ':St} {ψ ψ':Prop},Qsy b s rs us σ0 os Y ψ=X (σ',ψ')->ψ'->ψ/\(RR C (BQ Z b) Y a w->(∀p cs ob,look σ0.hp p=X (.var cs)->look Y.hp p=X ob->¬ob.Nil)->RR C (BQ Z b) σ' a w):=by
 intro os
 induction os with
 |nil=>intro Y σ' ψ ψ' h h';cases h;exact⟨h',λk _=>k⟩
 |cons p ps ih=>
  intro Y σ' ψ ψ' h h';rw[Qsy]at h;split at h
  ·rename_i cs hcs;replace h:=Yn h;obtain⟨h0,h⟩:=h;simp only[QN,Ga]at h0;obtain⟨⟨g1,g2⟩,g3⟩:=h0;obtain⟨⟨h1,h2⟩,h3⟩:=ih h h';refine⟨h1,λk hv=>h3 ?_ ?_⟩
   ·have hne:p≠b:=λe=>by subst e;rw[Nat.beq_refl]at g1;cases g1
    obtain⟨ob,hob⟩:=Option.isSome_iff_exists.1 g3;refine k.sayOb hob (λB hB _=>?_) (.inr (hv p cs ob hcs hob));obtain⟨_,hB'⟩:=WH hB;rcases hr.heap p _ hcs with⟨B',O,hrep⟩|⟨hn,_⟩
    ·rw[hB']at O;cases O;obtain⟨xs,E,e1,e2,e0,e3⟩:=hrep;refine⟨xs,E,e1,by simpa using e2,e0,λj x v hx hv'=>?_⟩;rw[Yj]at hv';obtain⟨c,hcj,rfl⟩:=Yo.1 hv';rw[XS]at g2;exact RR.frzC hs hr hp hb (e3 j x c hx hcj) (QqV h2 j c hcj) (QsA (g2 c (XB hcj)))
    rw[hn]at hB';cases hB'
   intro p' cs' ob' e1 e2 e3;by_cases e:p=p'
   ·subst e;rw[St.look_set_same]at e2;cases e2;exact e3.elim
   rw[St.look_set_other _ _ e]at e2;exact hv p' cs' ob' e1 e2 e3
  cases h
end
def R.frz {b z:Nat}{rs us:L_ (L_ V)}{s:V}(hs:Frz C s z us){Y σ1 σ2:St}{O os:L_ Nat}{φ1 φ2:Prop}(hp:Nat.ble 619 b=f_)(hb:look Y.hp b=X (.arr z rs))(h1:QlG b s rs us Y O (Y.kill b) True=X (σ1,φ1))(h2:Qsy b s rs us Y os σ1 φ1=X (σ2,φ2))(hφ:φ2)
  {a:Act} {w:World} (hR:R C Y a w):R C σ2 a w:=by
 obtain⟨Z,hr⟩:=hR;obtain⟨e1,e2⟩:=QuI hs hr hp hb h2 hφ;obtain⟨_,e3⟩:=QuH hs hr hp hb h1 e1;refine⟨_,e2 (e3 (hr.kill b)) λp cs ob g1 g2 g3=>?_⟩;have key:∀{O:L_ Nat} {σ' σ'':St} {ψ ψ':Prop},QlG b s rs us Y O σ' ψ=X (σ'',ψ')->σ''.hp=σ'.hp:=by
  intro O
  induction O with
  |nil=>intro σ' σ'' ψ ψ' h;cases h;rfl
  |cons t O ih=>
   intro σ' σ'' ψ ψ' h;rw[QlG]at h;split at h
   ·replace h:=Yn h;obtain⟨_,h⟩:=h;rw[ih h];rfl
   cases h
 rw[key h1]at g2;obtain⟨_,ob',h5,h6⟩:=Dt _ _ _ g2;rw[g1]at h5;cases h5;subst h6;exact g3.elim
def R.adoptO {Y:St}{p i b z:Nat}{cs:L_ V}(O:Nat.beq p b=f_)(hp:look Y.hp p=X (.var cs))(hi:cs[i]? = X (.lit (.slice n_ 0 0)))(hlt:b<621)(hb:look Y.hp b=n_){a:Act}{w:World}(hR:R C Y a w):
  R C ((Y.set b (.arr z [])).set p (.var (cs.set i (.own b 0)))) a w:=by
 obtain⟨Z,hr⟩:=hR;have hne:b≠p:=λe=>by subst e;rw[Nat.beq_refl]at O;cases O
 have h1:=hr.setNil (z:=z) hlt hb;have hp':look (Y.set b (.arr z [])).hp p=X (.var cs):=by rw[St.look_set_other _ _ hne];exact hp
 refine⟨Z,h1.sayOb hp' (λB hB hrep=>?_) (.inr λe=>e.elim)⟩;obtain⟨xs,E,e1,e2,e0,e3⟩:=hrep;refine⟨xs,E,e1,by simpa using e2,e0,λj x v hx h=>?_⟩;rw[List.getElem?_set]at h;split at h
 ·rename_i hij;subst hij;split at h
  ·cases h;have:=e3 i x _ hx hi;rw[this.lit_inv];exact .own0 b
  cases h
 exact e3 j x v hx h
def QuJ {d:HK}{pt:Pt}{ks:L_ Fr}{Y:St}{Z:Prop}{c:Cfg}(ok:Ek P T)(hN:Ki P C n)(e:Qxx P C T n d pt ks Y Z=X c):QuE P C Q pt ks Y Z c:=by
 have hn:=hN.n;unfold Qxx at e;split at e
 ·split at e
  ·rename_i hw;split at e
   ·rename_i hs;cases e;exact λh=>let ⟨a,b⟩:=QiZ ok hN hs h;⟨a,λk=>AL.want hw b k⟩
   cases e
  cases e
 ·split at e
  ·rename_i hw;split at e
   ·rename_i hs;cases e;exact λh=>let ⟨a,b⟩:=QiZ ok hN hs h;⟨a,λk=>AL.want hw b k⟩
   cases e
  cases e
 ·split at e
  ·rename_i hw;split at e
   ·rename_i hd;split at e
    ·rename_i ho;split at e
     ·rename_i hp;split at e
      ·rename_i hv;split at e
       ·rename_i hs;cases e;exact λh=>let ⟨a,b⟩:=Qsz ok ho hd hp hv hs h;⟨a,λk=>AL.want hw b k⟩
       cases e
      cases e
     cases e
    cases e
   cases e
  cases e
 ·split at e
  ·rename_i hw;split at e
   ·rename_i hd;split at e
    ·rename_i cl ho;obtain⟨ce,ags,ts⟩:=cl;split at e
     ·rename_i hce;dsimp only at hce e;subst hce;split at e
      ·rename_i x y hxy;split at e
       ·rename_i Tx Ty hT;split at e
        ·rename_i p hp;split at e
         ·rename_i v hv;split at e
          ·rename_i hs;have ea:ags=#[x,y]:=by rw[<-QeB (xs:=ags),hxy]
           have et:ts=#[Tx,Ty]:=by rw[<-QeB (xs:=ts),hT]
           subst ea;subst et;cases e;exact λh=>let ⟨a,b⟩:=QuF ok hN ho hd hp hv hs h;⟨a,λk=>AL.want hw b k⟩
          cases e
         cases e
        cases e
       cases e
      cases e
     cases e
    cases e
   cases e
  cases e
 ·split at e
  ·rename_i hw;cases e;exact λh=>⟨h.1,λk=>AL.want hw h.2 k⟩
  cases e
 ·split at e
  ·rename_i hw;split at e
   ·rename_i d hd;replace e:=Yn e;obtain⟨e1,e⟩:=e;rw[<-hn]at e1;split at e
    ·rename_i cl ho;split at e
     ·rename_i f vs φ1 he;split at e
      ·rename_i hs;cases e;refine λh=>?_;have h0:φ1:=by
        have hs':=hs;unfold cmV at hs';replace hs':=(Yn hs').2
        repeat (split at hs'<;>first|(cases hs';exact h.1)|skip)
        all_goals cases hs'
       obtain⟨a,b⟩:=QuG (C:=C) ok ho he h0;obtain⟨_,b'⟩:=QvZ b hd e1 hN.g hs h;exact⟨a,λk=>AL.want hw b' k⟩
      cases e
     cases e
    cases e
   cases e
  cases e
 ·split at e
  ·rename_i hc;split at e
   ·cases e;exact λh=>⟨h.1,λk=>YX.condT hc h.2 k⟩
   cases e;exact λh=>⟨h.1,λk=>YX.condF hc h.2 k⟩
  cases e
 ·split at e
  ·rename_i u hu;cases e;exact λh=>⟨h.1,AK.weaken λa w=>R.say ⟨u,hu,h.2⟩⟩
  cases e
 ·split at e
  ·rename_i u hu;cases e;exact λh=>⟨h.1,AK.weaken λa w=>R.sayO ⟨u,hu,h.2⟩⟩
  cases e
 ·split at e
  ·rename_i ht;split at e
   ·rename_i hb;cases hbl:Nat.ble 621 _ with
    |true=>rw[hbl]at e;cases e
    |false=>rw[hbl]at e;cases e;exact λh=>⟨h,AK.weaken λa w O=>O.adopt (Fw (by rw[hbl];rfl)) ht hb⟩
   cases e
  cases e
 ·split at e
  ·rename_i v hv;cases e;exact λh=>⟨h,AK.weaken λa w O=>O.denil hv⟩
  cases e
 ·split at e
  ·rename_i v hv;cases e;exact λh=>⟨h,AK.weaken λa w O=>O.denilO hv⟩
  cases e
 ·replace e:=Yn e;obtain⟨e1,e⟩:=e;simp only[QN,Ga,Option.isNone_iff_eq_none]at e1;cases e;exact λh=>⟨h,AK.weaken λa w O=>O.ren _ _ e1.1.1 e1.1.2 e1.2⟩
 ·cases e;exact λh=>⟨h,AK.weaken λa w O=>O.kill _⟩
 ·split at e
  ·rename_i z rs hb;replace e:=Yn e;obtain⟨e1,e⟩:=e;rw[Ga]at e1;split at e
   ·rename_i σ1 φ1 h1;split at e
    ·rename_i σ2 φ2 h2;cases e;exact λh=>⟨h.1,AK.weaken λa w O=>R.frz (.inl rfl) e1 hb h1 h2 h.2 O⟩
    cases e
   cases e
  cases e
 ·split at e
  ·rename_i cs hcs;split at e
   ·rename_i hi;split at e
    ·rename_i hb;cases hpb:Nat.beq _ _ with
     |true=>rw[hpb]at e;cases e
     |false=>
      rw[hpb]at e;cases hbl:Nat.ble 621 _ with
      |true=>rw[hbl]at e;cases e
      |false=>rw[hbl]at e;cases e;exact λh=>⟨h,AK.weaken λa w O=>R.adoptO hpb hcs hi (Fw (by rw[hbl];rfl)) hb O⟩
    cases e
   cases e
  cases e
 ·split at e
  ·rename_i hf;split at e
   ·rename_i hp;replace e:=Yn e;obtain⟨e1,e⟩:=e;cases e;exact λh=>⟨h,AK.weaken λa w O=>O.to (Qxy hf) (Qxz hp) e1⟩
   cases e
  cases e
 cases e
def QtI (ok:Ek P T)(hN:Ki P C n):∀(k:Nat) {pt:Pt} {ks:L_ Fr} {Y:St} {Z:Prop} {c:Cfg},plain P C T n k pt ks Y Z=X c->QuE P C Q pt ks Y Z c:=by
 have hn:=hN.n;intro k
 induction k with
 |zero=>intro pt ks Y Z c e;cases e;exact λO=>⟨O,id⟩
 |succ k ih=>
  intro pt ks Y Z c e;unfold plain at e;split at e
  ·rename_i h;cases h
  ·rename_i k' ops o l _ _ _ h;cases h;split at e
   ·rename_i hw;split at e
    ·rename_i hs;exact λO=>let ⟨a,b⟩:=ih e O;let ⟨a',b'⟩:=QiZ ok hN hs a;⟨a',λk=>AL.want hw b' (b k)⟩
    cases e
   ·rename_i hw;split at e
    ·rename_i d hd;replace e:=Yn e;obtain⟨e1,e⟩:=e;rw[<-hn]at e1;exact λO=>let ⟨a,b⟩:=ih e O;⟨a,λk=>AL.pass hw hd e1 (b k)⟩
    rename_i hd;exact λO=>let ⟨a,b⟩:=ih e O;⟨a,λk=>AL.pass0 hw hd (b k)⟩
   cases e
  rename_i h _;cases h;split at e
  ·rename_i hc;exact λO=>let ⟨a,b⟩:=ih e O;⟨a,λk=>QvX hc (b k)⟩
  cases e
def QxA (ok:Ek P T)(hN:Ki P C n):∀(ds:L_ HK) {pt:Pt} {ks:L_ Fr} {Y:St} {Z:Prop} {c:Cfg},go P C T n ds pt ks Y Z=X c->QuE P C Q pt ks Y Z c:=by
 have hn:=hN.n;intro ds
 induction ds with
 |nil=>intro pt ks Y Z c e;cases e;exact λO=>⟨O,id⟩
 |cons d ds ih=>
  intro pt ks Y Z c e;unfold go at e;split at e
  ·rename_i h;cases h
  ·rename_i h;cases h;split at e
   ·rename_i hp;exact λO=>let ⟨a,b⟩:=ih e O;let ⟨a',b'⟩:=QtI ok hN _ hp a;⟨a',λk=>b' (b k)⟩
   cases e
  rename_i h;cases h;split at e
  ·rename_i hp;exact λO=>let ⟨a,b⟩:=ih e O;let ⟨a',b'⟩:=QuJ ok hN hp a;⟨a',λk=>b' (b k)⟩
  cases e
def AK.go (ok:Ek P T)(hN:Ki P C n)(ds:L_ HK){pt O:Pt}{ks h:L_ Fr}{Y σ':St}{Z:Prop}(e:Vm.go P C T n ds pt ks Y True=X ⟨O,h,σ',Z⟩)(hφ:Z)(k:AK P C Q O h σ'):AK P C Q pt ks Y:=
 (QxA ok hN ds e hφ).2 k
end
def XE {α:Type}{l:L_ α}{f:α->L_ V}{j:Int}{x:α}(h:idx l j=X x):0<=j/\(l.map f)[j.toNat]? = X (f x):=⟨(Yz h).1,Xq (Yz h).2⟩
def Yu {α:Type}{l:L_ α}{j:Int}{x:α}{n:Nat}(h:idx l j=X x)(O:l.length=n):0<=j/\j<(n:Int):=by subst O;exact⟨(Yz h).1,QAK h⟩
def Qgl {a b:Bool}(h:(a&&b)=t_):a=t_:=(QN _ _▸h).1
def Sf {a b:Bool}(h:(a&&b)=t_):b=t_:=(QN _ _▸h).2
def MC {a b c:Bool}(h:(a&&b&&c)=t_):a=t_:=Qgl (Qgl h)
def ME {a b c:Bool}(h:(a&&b&&c)=t_):b=t_:=Sf (Qgl h)
def Qbn {a b c:Bool}(h:(a&&b&&c)=t_):c=t_:=Sf h
def GL.none_ {Y:St}{n m:Nat}(h:n=m):GL Y n .none m:=h▸GL.no
def QzI {α:Type}{l:L_ α}{h d:Nat}(O:h<=l.length):V.own d h=V.own d (l.take h).length:=by rw[Kv,OB O]
def Il {α β:Type}{us:L_ α}{y:L_ β}{n:Nat}(h:decide (n+y.length<=4294967296)=t_)(e:us.length=y.length):decide (n+us.length<=4294967296)=t_:=by rw[e];exact h
def CX {α β:Type}{us:L_ α}{l y:L_ β}(e:us.length=y.length):l.length+us.length=(l++y).length:=by rw[e];simp
def Kf {rs:L_ (L_ V)}{n:Nat}(h:rs.length=n):n<=rs.length/\rs.take n=rs:=by subst h;exact⟨Yk _,Uf⟩
def UP (a b:Int):Bool:=decide (a<b)
def TX (a b:ByteArray):Bool:=decide (a.data.toList.map UInt8.toNat<b.data.toList.map UInt8.toNat)
section
variable {P:Program}{C:XC}{T:Az}{Q:Exit->St->Prop}{n:Nat}{ops:Array Oper}{base:St}
def KJ.denil {o:Oper}{Y:St}{d:Nat}{v:V}{ob:O_ Ob}{ms:L_ (O_ Nat)}(h:KJ P C ops o Y (Y.addF ⟨d,v,ob⟩)):KJ P C ops o Y (Y.addF ⟨d,v.denil ms,ob⟩):=by
 intro a w hR K Q hK;refine h a w hR K Q λa' w' ⟨Z,O⟩=>hK a' w' ⟨Z,?_⟩;cases ob with|none=>exact RR.putDenil (Y:=Y) O|some ob=>exact RR.putDenil (Y:=Y.set d ob) O
def QX.walk {f:FuncId}{fn:Func}{c:Code}{args:L_ V}{hs:H_}{O:V->H_->Prop}(n:Nat)(hf:P.funcs[f]? = X fn)(hb:fn.body=X c)(hn:fn.ntmps=n)
  (hle:(Nat.ble args.length n&&Nat.ble n 621)=t_) (h:∀C:XC,Ki P C n->AK P C (QfF P fn.results.toList O) (.c c) [] ⟨Rv 0 args,hs⟩):QX P f args hs O:=by
 rw[QN]at hle;exact QX.enter hf hb hn hle.1 hle.2 λC h1 _=>h C h1
def QX.walkR {f:FuncId}{fn:Func}{c:Code}{args:L_ V}{hs:H_}{O:V->H_->Prop}(n:Nat)(hf:P.funcs[f]? = X fn)(hb:fn.body=X c)(hn:fn.ntmps=n)
  (hle:(Nat.ble args.length n&&Nat.ble n 621)=t_) (h:∀C:XC,Ki P C n->C.rnd=n_->AK P C (QfF P fn.results.toList O) (.c c) [] ⟨Rv 0 args,hs⟩):QX P f args hs O:=by
 rw[QN]at hle;exact QX.enter hf hb hn hle.1 hle.2 h
def gives {r:V}{outs O:H_}(h:LB O outs):Gives r outs r O:=⟨rfl,λ_ _ e=>h.look _ _ e⟩
end
def QpM {α:Type}{f:α->L_ V}{l:L_ α}{n:Nat}(h:n=l.length):n<=(l.map f).length/\(l.map f).take n=l.map f:=by
 subst h;exact⟨by simp,YV (by simp)⟩
section
variable {τ ρ π:Type}
def GM (body:τ->π->O_ (τ⊕ρ)):τ->L_ π->O_ (τ⊕ρ)
 |s,[]=>X (.inl s)|s,p::l=>(body s p).bind λo=>Sum.elim (λh=>GM body h l) (λr=>X (.inr r)) o
open Classical in
noncomputable def MF (body:τ->π->O_ (τ⊕ρ))(s:τ):L_ π->O_ (τ⊕ρ)
 |[]=>X (.inl s)|[p]=>GM body s [p]|l=>if ∀h:L_ π,h.Perm l->GM body s h=GM body s l then GM body s l else n_
def Pv {body:τ->π->O_ (τ⊕ρ)}{s:τ}{l:L_ π}{o:τ⊕ρ}:MF body s l=X o↔(∀O:L_ π,O.Perm l->GM body s O=GM body s l)/\GM body s l=X o:=by
 unfold MF;split
 ·exact⟨λh=>⟨λO hl=>by rw[hl.eq_nil],h⟩,λh=>h.2⟩
 ·exact⟨λh=>⟨λO hl=>by rw[List.perm_singleton.1 hl],h⟩,λh=>h.2⟩
 split
 ·rename_i h;exact Iff.intro (λe=>⟨h,e⟩) (λe=>e.2)
 rename_i h;exact Iff.intro (λe=>(by cases e)) (λe=>absurd e.1 h)
def QfK {body:τ->π->O_ (τ⊕ρ)}:∀{l m:L_ π} {s:τ},GM body s (l++m)=(GM body s l).bind λo=>Sum.elim (λh=>GM body h m) (λr=>X (.inr r)) o:=by
 intro l
 induction l with
 |nil=>intro m s;rfl|cons p l O=>
  intro m s;simp only[QgY,GM];cases body s p with
  |none=>rfl|some o=>
   cases o with|inl h=>exact O|inr r=>rfl
end
def Js {π:Type}(L:L_ (Nat×π))(h:Array Nat):L_ (Nat×π):=L.filter λq=>!h.contains q.1
def Qhj {π:Type}{L:L_ (Nat×π)}(hn:(L.map (·.1)).Nodup){O:Array Nat}{q:Nat×π}(hq:q∈Js L O):(Js L O).Perm (q::Js L (O.push q.1)):=by
 have key:∀(l:L_ (Nat×π)),(l.map (·.1)).Nodup->∀p:Nat×π->Bool,q∈l->p q=t_->(l.filter p).Perm (q::l.filter λe=>p e&&!(e.1==q.1)):=by
  intro l
  induction l with
  |nil=>intro _ p h;simp at h|cons y l ih=>
   intro hn p hx hp;rw[GC,NI]at hn;rcases XP.1 hx with rfl|hx
   ·have h1:l.filter (λe=>p e&&!(e.1==q.1))=l.filter p:=by
     apply List.filter_congr;intro e he;have:e.1≠q.1:=λh=>hn.1 (by rw[<-h];exact List.mem_map_of_mem (f:=λq:Nat×π=>q.1) he);simp[this]
    simp[Ax,hp,h1]
   have hne:y.1≠q.1:=λh=>hn.1 (by rw[h];exact List.mem_map_of_mem (f:=λq:Nat×π=>q.1) hx);have h2:=ih hn.2 p hx hp;by_cases hy:p y=t_
   ·have e1:(y::l).filter p=y::l.filter p:=by simp[Ax,hy]
    have e2:((y::l).filter λe=>p e&&!(e.1==q.1))=y::l.filter λe=>p e&&!(e.1==q.1):=by simp[Ax,hy,hne]
    rw[e1,e2];exact(List.Perm.cons y h2).trans (List.Perm.swap _ _ _)
   have e1:(y::l).filter p=l.filter p:=by simp[Ax,hy]
   have e2:((y::l).filter λe=>p e&&!(e.1==q.1))=l.filter λe=>p e&&!(e.1==q.1):=by simp[Ax,hy]
   rw[e1,e2];exact h2
 have e2:Js L (O.push q.1)=L.filter λe=>(!O.contains e.1)&&!(e.1==q.1):=by
  unfold Js;apply List.filter_congr;intro e _;rw[HN];simp[Array.mem_push]
 rw[e2];unfold Js at hq ⊢;rw[FP]at hq;exact key L hn _ hq.1 hq.2
def QuK {α:Type}:∀{l m:L_ α},l.Nodup->(∀x∈l,x∈m)->m.length<=l.length->l.Perm m:=by
 classical
 intro l
 induction l with
 |nil=>intro m _ _ h;have:m=[]:=HO.1 (Nat.le_zero.1 h);subst this;exact .nil|cons x l ih=>
  intro m O hs hl;rw[NI]at O;have hx:=hs x Yc;have hp:=List.perm_cons_erase hx;refine(List.Perm.cons x (ih O.2 (λy hy=>?_) ?_)).trans hp.symm
  ·have hne:y≠x:=λe=>O.1 (e▸hy);exact(List.mem_erase_of_ne hne).2 (hs y (Ys _ hy))
  have:=hp.length_eq;simp at this hl;omega
section
variable {P:Program}{C:XC}{Q:Exit->St->Prop}{Y σ':St}{ks:L_ Fr}{o:Oper}
def AK.weakenE {ι:Type _}{f:ι->St}{pt:Pt}(h:∀a w,R C Y a w->∃i,R C (f i) a w)(k:∀i,AK P C Q pt ks (f i)):AK P C Q pt ks Y:=by
 cases pt with|c c=>exact λa w O=>let ⟨i,hi⟩:=h a w O;k i a w hi|o ops l=>exact λa w O=>let ⟨i,hi⟩:=h a w O;k i a w hi|x e=>exact λa w O=>let ⟨i,hi⟩:=h a w O;k i a w hi
def Nn {κ α:Type}(e:κ->V)(f:α->V)(L:L_ (Nat×(κ×α))):L_ (Nat×(V×V)):=L.map λq=>(q.1,(e q.2.1,f q.2.2))
def AK.openMap {κ α:Type}[DecidableEq κ]{K:TypeId}{e:κ->V}{val:κ->Value}{f:α->V}{lt:L_ (κ×α)}{b:Nat}{pt:Pt}(hk:Bz P K e val)(hb:look Y.hp b=X (.map (QO e f lt)))
  (h:∀bm O (L:L_ (Nat×(κ×α))),(L.map (·.1)).Nodup->(L.map Prod.snd).Perm lt->AK P C Q pt ks (Y.set b (.mapX bm O (Nn e f L) (QO e f lt)))):AK P C Q pt ks Y:=by
 have key:∀a w,R C Y a w->∃i:{ i:Nat×Nat×L_ (Nat×(κ×α)) // (i.2.2.map (·.1)).Nodup/\(i.2.2.map Prod.snd).Perm lt },R C (Y.set b (.mapX i.1.1 i.1.2.1 (Nn e f i.1.2.2) (QO e f lt))) a w:=by
  intro a w ⟨Z,hr⟩;rcases hr.heap b _ hb with⟨B,hB,hrep⟩|⟨_,h2⟩
  ·obtain⟨es,O,h1,h2,h3,h4,h5,h6⟩:=hrep;have hL:∀l:L_ MapEntry,(∀x∈l,x∈es.toList)->∃L:L_ (MapEntry×(κ×α)),L.map Prod.fst=l/\∀q∈L,q.2∈lt/\XG (Xp C Z w) w q.1.key (e q.2.1)/\XG (Xp C Z w) w q.1.val (f q.2.2):=by
    intro l
    induction l with
    |nil=>intro _;exact⟨[],rfl,λq hq=>by simp at hq⟩|cons x l ih=>
     intro hx;obtain⟨L,e1,e2⟩:=ih λy hy=>hx y (Ys _ hy);obtain⟨p,hp,a1,a2⟩:=h5 x (hx x Yc);obtain⟨q,hq,rfl⟩:=Yt.1 hp;exact⟨(x,q)::L,by rw[GC,e1],λy hy=>by
      rcases XP.1 hy with rfl|hy
      ·exact⟨hq,a1,a2⟩
      exact e2 y hy⟩
   obtain⟨L,e1,e2⟩:=hL es.toList λ_ h=>h;have hn:=(Vr hk.einj).1 h3;have hborn:(L.map (·.1.born)).Nodup:=by
    have:L.map (·.1.born)=es.toList.map (·.born):=by rw[<-e1,QaW];rfl
    rw[this];exact h2.2.1
   have hkeys:(L.map λq=>q.2.1).Nodup:=by
    have h7:(L.map λq=>q.1.key).Nodup:=by
     have:(L.map λq=>q.1.key)=es.toList.map (·.key):=by rw[<-e1,QaW];rfl
     rw[this];exact h2.2.2
    have h8:(L.map λq=>q.1.key)=(L.map λq=>q.2.1).map val:=by
     rw[QaW];apply QaV;intro q hq;exact hk.inv _ _ _ _ (e2 q hq).2.1
    rw[h8]at h7;exact(QaY.1 h7).imp λhab e'=>hab (by rw[e'])
   have hperm:(L.map Prod.snd).Perm lt:=by
    have hnd:(L.map Prod.snd).Nodup:=by
     have:(L.map λq=>q.2.1)=(L.map Prod.snd).map Prod.fst:=by rw[QaW];rfl
     rw[this]at hkeys;exact(QaY.1 hkeys).imp λhab e'=>hab (by rw[e'])
    have hsub:∀q∈L.map Prod.snd,q∈lt:=λq hq=>by
     obtain⟨y,hy,rfl⟩:=Yt.1 hq;exact(e2 y hy).1
    have hlen:lt.length<=(L.map Prod.snd).length:=by
     have:(L.map Prod.fst).length=es.toList.length:=by rw[e1]
     simp[QO]at h4 this ⊢;omega
    have hltnd:lt.Nodup:=(QaY.1 hn).imp λhab e'=>hab (by rw[e']);exact QuK hnd hsub hlen
   have hes:es=(L.map Prod.fst).toArray:=by rw[e1]
   have hfst:(L.map λq=>(q.1,(e q.2.1,f q.2.2))).map Prod.fst=L.map Prod.fst:=by simp
   refine⟨⟨(B.b,O,L.map λq=>(q.1.born,q.2)),by show((L.map _).map _).Nodup;rw[QaW];exact hborn,by show((L.map _).map _).Perm _;rw[QaW];exact hperm⟩,Z,?_⟩;refine hr.say' hb (λB' hB' _=>?_) (λe'=>e'.elim);rw[hB]at hB';cases hB';refine⟨rfl,L.map λq=>(q.1,(e q.2.1,f q.2.2)),by simp[Nn],by rw[h1,hfst,hes],by rw[hfst,<-hes];exact h2,h3,?_,λq hq=>?_⟩
   ·have:(L.map λq=>(q.1,(e q.2.1,f q.2.2))).map Prod.snd=QO e f (L.map Prod.snd):=by simp[QO]
    rw[this];exact hperm.map _
   obtain⟨q',hq',rfl⟩:=Yt.1 hq;exact(e2 q' hq').2
  exact h2.elim
 exact AK.weakenE key λi=>h _ _ _ i.2.1 i.2.2
def R.closeMap {b bm O:Nat}{L:L_ (Nat×(V×V))}{l:L_ (V×V)}(hb:look Y.hp b=X (.mapX bm O L l)){a:Act}{w:World}(h:R C Y a w):R C (Y.set b (.map l)) a w:=by
 obtain⟨Z,hr⟩:=h;refine⟨Z,hr.say' hb (λB hB hrep=>?_) (λe'=>e'.elim)⟩;obtain⟨h1,M,rfl,h2,h3,h4,h5,h6⟩:=hrep;refine⟨(M.map Prod.fst).toArray,O,h2,h3,h4,by have:=h5.length_eq;simpa using this,λx hx=>?_,λp hp=>?_⟩
 ·obtain⟨q,hq,rfl⟩:=Yt.1 (by simpa using hx:x∈M.map Prod.fst);exact⟨q.2,h5.mem_iff.1 (List.mem_map_of_mem hq),(h6 q hq).1,(h6 q hq).2⟩
 obtain⟨q,hq,rfl⟩:=Yt.1 (h5.mem_iff.2 hp);exact⟨q.1,by simpa using (⟨q.2.1,q.2.2,hq⟩:∃a b,(q.1,a,b)∈M),(h6 q hq).1,(h6 q hq).2⟩
def AK.closeMap {b bm O:Nat}{L:L_ (Nat×(V×V))}{l:L_ (V×V)}{pt:Pt}(hb:look Y.hp b=X (.mapX bm O L l))(k:AK P C Q pt ks (Y.set b (.map l))):AK P C Q pt ks Y:=AK.weaken (λ_ _ h=>R.closeMap hb h) k
def Qf.range {T d b bm O K E:Nat}{x:Operand}{L:L_ (Nat×(V×V))}{l:L_ (V×V)}(ho:o.op=.range T x)(hd:o.dst=X d)(hn:B_ d C)(hx:Y.opd x=X (.map b))(hb:look Y.hp b=X (.mapX bm O L l))
  (hT:Rz P T=X (K,E)) (hf:look Y.hp d=n_):Qf P C o Y ((Y.set d (.itr bm O #[] n_)).put d (.loc d 0 0)):=by
 refine Qf.val λZ a w hr=>?_;obtain⟨B,hB,hev⟩:=(hr.opd hx).map_inv;obtain⟨rfl,M,rfl,h2,_⟩:=hr.block hB hb;refine⟨.pointer (X ⟨w.heap.size,0,n_⟩),w.alloc (.mapIter (X B.b) O #[] O),ext Z d ⟨w.heap.size,1,0,[],0⟩,?_,?_⟩
 ·simp only[execOp,ho,hev,Xl,run_range_map w T K E B.b _ O (Hv hT) h2,Xo,Xx]
 rw[hd];refine(hr.alloc (cap:=1) (z:=0) hf (C.slot hn) (ob:=.itr B.b O #[] n_) (obj:=.mapIter (X B.b) O #[] O) ⟨heap_alloc_new w _,rfl,λx h=>by cases h⟩).put (XT hn) ?_;exact .loc d 0 0 ⟨w.heap.size,1,0,[],0⟩ (XQ _ _ _)
def Qf.range0 {T d K E:Nat}{x:Operand}(ho:o.op=.range T x)(hd:o.dst=X d)(O:B_ d C)(hx:Y.opd x=X (.lit (.map n_)))(hT:Rz P T=X (K,E))(hf:look Y.hp d=n_):
  Qf P C o Y ((Y.set d .itr0).put d (.loc d 0 0)):=by
 refine Qf.val λZ a w hr=>?_;have h:=(hr.opd hx).lit_inv;refine⟨.pointer (X ⟨w.heap.size,0,n_⟩),w.alloc (.mapIter n_ 0 #[] 0),ext Z d ⟨w.heap.size,1,0,[],0⟩,?_,?_⟩
 ·simp only[execOp,ho,h,Xl,run_range_nilMap w T K E (Hv hT),Xo,Xx]
 rw[hd];refine(hr.alloc (cap:=1) (z:=0) hf (C.slot O) (ob:=.itr0) (obj:=.mapIter n_ 0 #[] 0) ⟨#[],0,heap_alloc_new w _,rfl⟩).put (XT O) ?_;exact .loc d 0 0 ⟨w.heap.size,1,0,[],0⟩ (XQ _ _ _)
def Qf.next0 {d b:Nat}{x:Operand}(ho:o.op=.next x f_)(hd:o.dst=X d)(hn:B_ d C)(O:Y.opd x=X (.loc b 0 0))(hb:look Y.hp b=X .itr0):Qf P C o Y (Y.put d (.tup [.b f_])):=by
 refine Qf.val λZ a w hr=>?_;obtain⟨B,hB,h⟩:=(hr.opd O).loc_inv;obtain⟨s,c,h1,h0⟩:=hr.block hB hb;refine⟨.tuple #[.bool f_],w,Z,?_,?_⟩
 ·simp only[Ij,My,h0]at h;simp only[execOp,ho,h,Xl];have:(Instr.next (.pointer (X ⟨B.b,0,n_⟩)) f_ o.type).run P w=.ok (.tuple #[.bool f_]) w:=by
   simp only[Instr.next,getObj,Xl,Sem.run,h1,Result.andThen];rfl
  rw[this];rfl
 rw[hd];refine hr.put (XT hn) (.tup _ _ rfl λj x v O hv=>?_);cases j with|zero=>simp at O hv;subst O;subst hv;exact .dat (.b _)|succ j=>simp at O
def Qf.entry {d b m bm h:Nat}{x:Operand}{L:L_ (Nat×(V×V))}{l:L_ (V×V)}{seen:Array Nat}{q:Nat×(V×V)}(ho:o.op=.entry x)(hd:o.dst=X d)(hn:B_ d C)(O:Y.opd x=X (.loc b 0 0))
  (hb:look Y.hp b=X (.itr bm h seen (X q.1))) (hm:look Y.hp m=X (.mapX bm h L l)) (hq:q∈L):Qf P C o Y (Y.put d (.tup [q.2.1,q.2.2])):=by
 refine Qf.same hd hn λZ a w hr=>?_;obtain⟨B,hB,hev⟩:=(hr.opd O).loc_inv;obtain⟨h1,h0,h2⟩:=hr.block hB hb;obtain⟨s0,rfl⟩:=h2 _ rfl;rcases hr.heap m _ hm with⟨M,hM,g1,N,rfl,g2,g3,g4,g5,g6⟩|⟨_,e'⟩
 ·obtain⟨q,hn,rfl⟩:=Yt.1 hq;refine⟨.tuple #[q.1.key,q.1.val],?_,.tup _ _ rfl λj x v O hv=>?_⟩
  ·simp only[Ij,My,h0]at hev;subst g1;have he:=run_entry_at (P:=P) w B.b M.b h s0 _ h q.1 h1 g2 (by simpa using (⟨q.2.1,q.2.2,hn⟩:∃a b,(q.1,a,b)∈N)) g3.2.1;simp only[execOp,ho,hev,Xl,he,Xo,Xx]
  cases j with
  |zero=>simp at O hv;subst O;subst hv;exact .dat (g6 q hn).1|succ j=>
   cases j with|zero=>simp at O hv;subst O;subst hv;exact .dat (g6 q hn).2|succ j=>simp at O
 exact e'.elim
def Qlq {π:Type}{N:L_ (MapEntry×π)}{h:Array Nat}:(leftOf (N.map Prod.fst).toArray h).toList=(N.filter λq=>!h.contains q.1.born).map Prod.fst:=by
 simp only[leftOf,Array.toList_filter,List.filter_map];rfl
def QnP {π:Type}{N:L_ (MapEntry×π)}{h:Array Nat}:Js (N.map λq=>(q.1.born,q.2)) h=(N.filter λq=>!h.contains q.1.born).map λq=>(q.1.born,q.2):=by
 simp only[Js,List.filter_map];rfl
def AK.next {d b m bm h:Nat}{x:Operand}{ops:Array Oper}{rest:L_ Oper}{L:L_ (Nat×(V×V))}{l:L_ (V×V)}{O:Array Nat}{cur:O_ Nat}(hg:o.guard=n_)(ho:o.op=.next x f_)(hd:o.dst=X d)(hn:B_ d C)
  (hx:Y.opd x=X (.loc b 0 0)) (hb:look Y.hp b=X (.itr bm h O cur)) (hm:look Y.hp m=X (.mapX bm h L l)) (hbm:Nat.beq b m=f_)
  (hdone:Js L O=[]->AK P C Q (.o ops rest) ks (Y.put d (.tup [.b f_])))
  (hpick:∀q∈Js L O,AK P C Q (.o ops rest) ks ((Y.set b (.itr bm h (O.push q.1) (X q.1))).put d (.tup [.b t_,.J,.J]))):AK P C Q (.o ops (o::rest)) ks Y:=by
 intro a w ⟨Z,hr⟩;simp only[wpListIn,Region.wanted,hg,if_true];obtain⟨B,hB,hev⟩:=(hr.opd hx).loc_inv;obtain⟨h1,h0,h2⟩:=hr.block hB hb;simp only[Ij,My,h0]at hev;rcases hr.heap m _ hm with⟨M,hM,g1,N,rfl,g2,g3,g4,g5,g6⟩|⟨_,e'⟩
 ·subst g1;refine⟨λ_ _=>trivial,?_⟩;rw[Oper.semAt_eq _ _ _ (by rw[ho];intro c hc;cases hc)];have hold:∀y∈(N.map Prod.fst).toArray.toList,y.born<h:=g3.1;rcases run_next_at (P:=P) w o.type B.b M.b h h O _ h h1 g2 hold (Yk _)with⟨k1,k2⟩|⟨e,k1,w1,k2,k3⟩
  ·simp only[execOp,ho,hev,Xl,k2,Xo,Xx];rw[Oper.uponIn_value];refine hdone ?_ _ _ ⟨Z,?_⟩
   ·have h3:(leftOf (N.map Prod.fst).toArray O).toList.length=0:=by simpa using k1
    rw[Qlq]at h3;exact HO.1 (by simpa[QnP] using h3)
   rw[hd];refine hr.put (XT hn) (.tup _ _ rfl λj x v hx hv=>?_);cases j with|zero=>simp at hx hv;subst hx;subst hv;exact .dat (.b _)|succ j=>simp at hx
  simp only[execOp,ho,hev,Xl,k3,Xo,Xx];rw[Oper.uponIn_value];rw[Qlq]at k1;obtain⟨q,hq,rfl⟩:=Yt.1 k1;refine hpick (q.1.born,q.2) (by rw[QnP];exact Yt.2 ⟨q,hq,rfl⟩) _ _ ?_;have hr1:RR C Z Y a w1:=by
   rcases k2 with rfl|rfl
   ·exact hr
   exact hr.step rfl rfl rfl (Yk _) (λ_ _=>rfl)
  have hheap:w1.heap=w.heap:=by rcases k2 with rfl|rfl<;>rfl
  have hlt:=(hr1.lt b B B.b hB B.self).1;have h4:RR C Z (Y.set b (.itr M.b h (O.push q.1.born) (X q.1.born))) a (Go.ChangeMaps.setBlock w1 B.b (.mapIter (X M.b) h (O.push q.1.born) h)):=by
   refine hr1.write hB (by rfl) (by rfl) (by rfl) ?_ ?_ ?_
   ·simp[Go.ChangeMaps.setBlock]
   ·intro k hk;simp only[Go.ChangeMaps.setBlock];exact Uh _ (λe=>hk e)
   refine⟨?_,h0,λx e=>?_⟩
   ·simp[Go.ChangeMaps.setBlock,QfB,hlt]
   cases e;exact⟨O,rfl⟩
  refine⟨Z,?_⟩;rw[hd];refine h4.put (XT hn) (.tup _ _ rfl λj x v hx hv=>?_);cases j with
  |zero=>simp at hx hv;subst hx;subst hv;exact .dat (.b _)|succ j=>
   cases j with
   |zero=>simp at hx hv;subst hv;exact .dat (.J _)|succ j=>
    cases j with|zero=>simp at hx hv;subst hv;exact .dat (.J _)|succ j=>simp at hx
 exact e'.elim
def QqW {κ α:Type}{e:κ->V}{f:α->V}{L:L_ (Nat×(κ×α))}{h:Array Nat}:Js (Nn e f L) h=Nn e f (Js L h):=by
 simp only[Js,Nn,List.filter_map];rfl
def AK.nextT {d b m bm O:Nat}{x:Operand}{ops:Array Oper}{rest:L_ Oper}{κ α:Type}{e:κ->V}{f:α->V}{L:L_ (Nat×(κ×α))}{l:L_ (V×V)}{seen:Array Nat}{cur:O_ Nat}(hg:o.guard=n_)(ho:o.op=.next x f_)(hd:o.dst=X d)
  (hn:B_ d C) (hx:Y.opd x=X (.loc b 0 0)) (hb:look Y.hp b=X (.itr bm O seen cur)) (hm:look Y.hp m=X (.mapX bm O (Nn e f L) l)) (hbm:Nat.beq b m=f_)
  (hdone:Js L seen=[]->AK P C Q (.o ops rest) ks (Y.put d (.tup [.b f_])))
  (hpick:∀x k v,(x,(k,v))∈Js L seen->AK P C Q (.o ops rest) ks ((Y.set b (.itr bm O (seen.push x) (X x))).put d (.tup [.b t_,.J,.J]))):AK P C Q (.o ops (o::rest)) ks Y:=by
 refine AK.next hg ho hd hn hx hb hm hbm (λh=>hdone ?_) (λq hq=>?_)
 ·rw[QqW]at h;simpa[Nn] using h
 rw[QqW]at hq;obtain⟨q',hq',rfl⟩:=Yt.1 hq;exact hpick q'.1 q'.2.1 q'.2.2 hq'
def Qf.entryT {d b m bm h:Nat}{x:Operand}{κ α:Type}{e:κ->V}{f:α->V}{L:L_ (Nat×(κ×α))}{l:L_ (V×V)}{O:Array Nat}{y:Nat}{k:κ}{v:α}(ho:o.op=.entry x)(hd:o.dst=X d)(hn:B_ d C)(hx:Y.opd x=X (.loc b 0 0))
  {s0:Array Nat} (hq:(y,(k,v))∈Js L s0) (hb:look Y.hp b=X (.itr bm h O (X y))) (hm:look Y.hp m=X (.mapX bm h (Nn e f L) l)):Qf P C o Y (Y.put d (.tup [e k,f v])):=
 Qf.entry (q:=(y,(e k,f v))) ho hd hn hx hb hm (Yt.2 ⟨(y,(k,v)),(FP.1 hq).1,rfl⟩)
def AK.loopOnce {c:Code}(h:AK P C Q (.c c) (.cut (λ_=>False)::ks) Y):AK P C Q (.c (.loop c)) ks Y:=by
 intro a w hR;refine wpIn_loop_rounds 1 ?_;rw[roundsIn_succ];refine wpIn_mono (h a w hR) ?_;rintro e a' w' ⟨σ',O,h2⟩;cases e<;>first|exact O.elim|exact⟨σ',O,h2⟩
def QBt {τ ρ π:Type}(body:τ->π->O_ (τ⊕ρ))(L:L_ (Nat×π))(E:τ->Array Nat->St->Prop)(O:ρ->Exit->St->Prop)(PD:τ->Exit->St->Prop)(s:τ)(h:Array Nat):Exit->St->Prop:=λe σ'=>
 (Js L h=[]/\e≠.normal/\PD s e σ')\/∃q∈Js L h,(∃s',body s q.2=X (.inl s')/\e=.normal/\E s' (h.push q.1) σ')\/(∃r,body s q.2=X (.inr r)/\e≠.normal/\O r e σ')
def AK.range {τ ρ π:Type}{body:τ->π->O_ (τ⊕ρ)}{c:Code}{lt:L_ π}{L:L_ (Nat×π)}(E:τ->Array Nat->St->Prop)(Post:ρ->Exit->St->Prop)(PD:τ->Exit->St->Prop){s0:τ}{r:τ⊕ρ}(hn:(L.map (·.1)).Nodup)(hp:(L.map Prod.snd).Perm lt)
  (hr:MF body s0 lt=X r) (h0:E s0 #[] Y)
  (round:∀s O Y,E s O Y->(∀q∈Js L O,∃o,body s q.2=X o)->AK P C (QBt body L E Post PD s O) (.c c) [] Y)
  (hQ:∀e σ',(Sum.elim (λs=>PD s e σ') (λq=>Post q e σ') r)->AK P C Q (.x e) ks σ'):AK P C Q (.c (.loop c)) ks Y:=by
 obtain⟨hperm,hrun⟩:=Pv.1 hr;have key:∀(k:Nat) (s:τ) (O:Array Nat),(Js L O).length=k->(∃dn,(dn++(Js L O).map Prod.snd).Perm lt/\GM body s0 dn=X (.inl s))->∀Y a w,E s O Y->R C Y a w->
   Code.roundsIn C.F 0 P c (up C λe σ'=>Sum.elim (λs=>PD s e σ') (λq=>Post q e σ') r) (k+1) a w:=by
  intro k
  induction k with
  |zero=>
   rintro s O hk ⟨dn,hd1,hd2⟩ Y a w hE hR;have hnil:=HO.1 hk;rw[roundsIn_succ];refine wpIn_mono (round s O Y hE (λq hq=>by rw[hnil]at hq;cases hq) a w hR) ?_;rintro e a' w' ⟨σ',hq,hR'⟩;rcases hq with⟨_,h2,h3⟩|⟨q,hq,_⟩
   ·rw[hnil]at hd1;have:GM body s0 dn=X r:=by rw[<-hrun];exact hperm dn (by simpa using hd1)
    rw[this]at hd2;cases hd2;cases e<;>first|exact absurd rfl h2|exact⟨σ',h3,hR'⟩
   rw[hnil]at hq;cases hq
  |succ k ih=>
   rintro s O hk ⟨dn,hd1,hd2⟩ Y a w hE hR;rw[roundsIn_succ];have hall:∀q∈Js L O,∃o,body s q.2=X o/\∃rest,(dn++q.2::rest).Perm lt/\rest=(Js L (O.push q.1)).map Prod.snd:=λq hq=>by
    have h1:=(Qhj hn hq).map Prod.snd;have h2:(dn++q.2::(Js L (O.push q.1)).map Prod.snd).Perm lt:=((List.Perm.append_left dn h1).symm).trans hd1;have h3:GM body s0 (dn++q.2::(Js L (O.push q.1)).map Prod.snd)=X r:=by rw[<-hrun];exact hperm _ h2
    rw[QfK,hd2]at h3;simp only[Qa,Sum.elim_inl,GM]at h3;cases hb:body s q.2 with
    |none=>rw[hb]at h3;cases h3
    |some o=>exact⟨o,rfl,_,h2,rfl⟩
   refine wpIn_mono (round s O Y hE (λq hq=>let ⟨o,h,_⟩:=hall q hq;⟨o,h⟩) a w hR) ?_;rintro e a' w' ⟨σ',hq,hR'⟩;rcases hq with⟨h1,_,_⟩|⟨q,hq,⟨s',h1,rfl,h3⟩|⟨r',h1,h2,h3⟩⟩
   ·rw[h1]at hk;cases hk
   ·obtain⟨_,_,rest,h5,h6⟩:=hall q hq;refine ih s' (O.push q.1) ?_ ⟨dn++[q.2],?_,?_⟩ σ' a' w' h3 hR'
    ·have:=(Qhj hn hq).length_eq;simp at this;omega
    ·rw[Kh,List.singleton_append,<-h6];exact h5
    rw[QfK,hd2];simp only[Qa,Sum.elim_inl,GM,h1]
   obtain⟨_,_,rest,h5,h6⟩:=hall q hq;have h7:GM body s0 (dn++q.2::rest)=X r:=by rw[<-hrun];exact hperm _ h5
   rw[QfK,hd2]at h7;simp only[Qa,Sum.elim_inl,GM,h1,Sum.elim_inr]at h7;cases h7;cases e<;>first|exact absurd rfl h2|exact⟨σ',h3,hR'⟩
 intro a w hR;have hL:Js L #[]=L:=by simp[Js]
 refine wpIn_mono (wpIn_loop_rounds _ (key _ s0 #[] rfl ⟨[],by rw[hL];simpa using hp,rfl⟩ Y a w h0 hR)) ?_;rintro e a' w' ⟨σ',h1,h2⟩;exact hQ e σ' h1 a' w' h2
end
structure YI where
 kills:List Nat
 sets:List (Nat×Ob)
 put:Option (Nat×V)
def St.sets (Y:St):H_->St
 |[]=>Y|(o,ob)::r=>(Y.sets r).set o ob
def YI.run (M:YI)(Y:St):St:=match M.put with|none=>(Y.killL M.kills).sets M.sets|some (d,v)=>((Y.killL M.kills).sets M.sets).put d v
def UZ (Y B:St):Prop:=(∀t v,look B.fr t=X v->look Y.fr t=X v)/\∀p ob,look B.hp p=X ob->look Y.hp p=X ob
def Qaa {b:Nat}:∀(l:S_) (t:Nat),look (MA b l) t=(look l t).map (V.kill b):=by
 intro l
 induction l with
 |nil=>intro t;rfl|cons p l h=>
  obtain⟨k,v⟩:=p;intro t;by_cases e:k=t
  ·subst e;rw[MA,QD,QD];rfl
  rw[MA,QA _ _ e,QA _ _ e];exact h t
def Pw {b:Nat}:∀(l:H_) (t:Nat),look (Bj b l) t=if t=b then n_ else(look l t).map (Ob.kill b):=by
 intro l t;by_cases h:t=b
 ·rw[if_pos h];cases hl:look (Bj b l) t with|none=>rfl|some ob=>obtain⟨O,_⟩:=Dt _ _ _ hl;exact absurd h O
 rw[if_neg h];cases hl:look l t with
 |none=>
  cases hk:look (Bj b l) t with|none=>rfl|some ob=>obtain⟨_,ob',O,_⟩:=Dt _ _ _ hk;rw[hl]at O;cases O
 |some ob=>exact Ci _ _ _ h hl
def UZ.kill {Y B:St}(h:UZ Y B)(b:Nat):UZ (Y.kill b) (B.kill b):=by
 refine⟨λt v hv=>?_,λp ob O=>?_⟩
 ·have hv:look (MA b B.fr) t=X v:=hv;show look (MA b Y.fr) t=X v;rw[Qaa]at hv ⊢;obtain⟨u,hu,rfl⟩:=Yo.1 hv;rw[h.1 t u hu];rfl
 have O:look (Bj b B.hp) p=X ob:=O;show look (Bj b Y.hp) p=X ob;rw[Pw]at O ⊢;split at O
 ·cases O
 rename_i hne;rw[if_neg hne];obtain⟨u,hu,rfl⟩:=Yo.1 O;rw[h.2 p u hu];rfl
def UZ.killL : ∀{l:L_ Nat} {Y B:St},UZ Y B->UZ (Y.killL l) (B.killL l):=by
 intro l
 induction l with|nil=>intro Y B h;exact h|cons b l O=>intro Y B h;exact O (h.kill b)
def UZ.set {Y B:St}(h:UZ Y B)(o:Nat)(ob:Ob):UZ (Y.set o ob) (B.set o ob):=by
 refine⟨h.1,λp u O=>?_⟩;by_cases e:p=o
 ·subst e;rw[St.look_set_same]at O ⊢;exact O
 rw[St.look_set_other _ _ (Ne.symm e)]at O ⊢;exact h.2 p u O
def UZ.sets : ∀{l:H_} {Y B:St},UZ Y B->UZ (Y.sets l) (B.sets l):=by
 intro l
 induction l with|nil=>intro Y B h;exact h|cons p l O=>intro Y B h;exact(O h).set p.1 p.2
def UZ.put {Y B:St}(h:UZ Y B)(d:Nat)(v:V):UZ (Y.put d v) (B.put d v):=by
 refine⟨λt u O=>?_,h.2⟩;have O:look ((d,v)::B.fr) t=X u:=O;show look ((d,v)::Y.fr) t=X u;by_cases e:d=t
 ·subst e;rw[QD]at O ⊢;exact O
 rw[QA _ _ e]at O ⊢;exact h.1 t u O
def UZ.run {Y B:St}(h:UZ Y B)(M:YI):UZ (M.run Y) (M.run B):=by
 unfold YI.run;split
 ·exact h.killL.sets
 exact h.killL.sets.put _ _
def YI.keeps (M:YI)(t:Nat)(v:V):Bool:=M.kills.all (λb=>v.free b)&&(match M.put with|none=>true|some (d,_)=>!(Nat.beq d t))
def YI.keepsO (M:YI)(p:Nat):Bool:=M.kills.all (λb=>!(Nat.beq b p))&&M.sets.all (λq=>!(Nat.beq q.1 p))
def Ob.keep1 (b:Nat):Ob->Bool
 |.var h=>h.all (V.freeC b)|.lp _ _ h _=>h.all (V.freeC b)|_=>t_
def QuL : ∀{l:L_ Nat} {Y:St} {t:Nat} {v:V},l.all (λb=>v.free b)=t_->look Y.fr t=X v->look (Y.killL l).fr t=X v:=by
 intro l
 induction l with
 |nil=>intro Y t v _ h;exact h|cons b l ih=>
  intro Y t v O h;rw[QaR,QN]at O;refine ih O.2 ?_;show look (MA b Y.fr) t=X v;rw[Qaa,h,Gq,V.kill,O.1];rfl
def QpN : ∀{l:H_} {Y:St},(Y.sets l).fr=Y.fr:=by
 intro l
 induction l with|nil=>intro Y;rfl|cons p l h=>intro Y;exact h
def YI.keeps_look {M:YI}{Y:St}{t:Nat}{v:V}(O:M.keeps t v=t_)(h:look Y.fr t=X v):look (M.run Y).fr t=X v:=by
 unfold YI.keeps at O;rw[QN]at O;have h1:look ((Y.killL M.kills).sets M.sets).fr t=X v:=by rw[QpN];exact QuL O.1 h
 unfold YI.run;split
 ·exact h1
 rename_i d u hp;rw[hp]at O;have hne:d≠t:=Lr O.2;show look ((d,u)::_) t=X v;rw[QA _ _ hne];exact h1
def QpO : ∀{l:L_ Nat} {Y:St} {p:Nat},look Y.hp p=n_->look (Y.killL l).hp p=n_:=by
 intro l
 induction l with
 |nil=>intro Y p h;exact h|cons b l O=>
  intro Y p h;refine O ?_;show look (Bj b Y.hp) p=n_;rw[Pw,h];simp
def QsB : ∀{l:H_} {Y:St} {p:Nat},l.all (λq=>!(Nat.beq q.1 p))=t_->look Y.hp p=n_->look (Y.sets l).hp p=n_:=by
 intro l
 induction l with
 |nil=>intro Y p _ h;exact h|cons q l ih=>
  intro Y p O h;rw[QaR,QN]at O;show look ((Y.sets l).set q.1 q.2).hp p=n_;rw[St.look_set_other _ _ (Lr O.1)];exact ih O.2 h
def YI.none_look {M:YI}{Y:St}{p:Nat}(hk:M.sets.all (λq=>!(Nat.beq q.1 p))=t_)(h:look Y.hp p=n_):look (M.run Y).hp p=n_:=by
 have O:look ((Y.killL M.kills).sets M.sets).hp p=n_:=QsB hk (QpO h);unfold YI.run;split<;>exact O
def Ob.kill_keep {ob:Ob}{b:Nat}(h:ob.keep1 b=t_):ob.kill b=ob:=by
 cases ob with
 |var O=>
  simp only[Ob.keep1,XS]at h;simp only[Ob.kill,Ob.var.injEq]
  conv=>rhs;rw[<-List.map_id O]
  apply QaV;intro v hv;simp only[V.killC,h v hv,Qr,id]
 |lp l K O q=>
  simp only[Ob.keep1,XS]at h;simp only[Ob.kill,Ob.lp.injEq,true_and,and_true]
  conv=>rhs;rw[<-List.map_id O]
  apply QaV;intro v hv;simp only[V.killC,h v hv,Qr,id]
 |_=>rfl
def QrB : ∀{l:L_ Nat} {Y:St} {p:Nat} {ob:Ob},l.all (λb=>!(Nat.beq b p))=t_->l.all (λb=>ob.keep1 b)=t_->look Y.hp p=X ob->look (Y.killL l).hp p=X ob:=by
 intro l
 induction l with
 |nil=>intro Y p ob _ _ h;exact h|cons b l ih=>
  intro Y p ob O hp h;rw[QaR,QN]at O hp;refine ih O.2 hp.2 ?_;show look (Bj b Y.hp) p=X ob;rw[Pw,if_neg (Lr O.1).symm,h,Gq,Ob.kill_keep hp.1]
def QsC : ∀{l:H_} {Y:St} {p:Nat} {ob:Ob},l.all (λq=>!(Nat.beq q.1 p))=t_->look Y.hp p=X ob->look (Y.sets l).hp p=X ob:=by
 intro l
 induction l with
 |nil=>intro Y p ob _ h;exact h|cons q l ih=>
  intro Y p ob O h;rw[QaR,QN]at O;show look ((Y.sets l).set q.1 q.2).hp p=X ob;rw[St.look_set_other _ _ (Lr O.1)];exact ih O.2 h
def YI.keepsO_look {M:YI}{Y:St}{p:Nat}{ob:Ob}(O:M.keepsO p=t_)(hp:M.kills.all (λb=>ob.keep1 b)=t_)(h:look Y.hp p=X ob):look (M.run Y).hp p=X ob:=by
 unfold YI.keepsO at O;rw[QN]at O;have h1:look ((Y.killL M.kills).sets M.sets).hp p=X ob:=QsC O.2 (QrB O.1 hp h);unfold YI.run;split<;>exact h1
section
variable {P:Program}{C:XC}{Q:Exit->St->Prop}{ops:Array Oper}{Y:St}{ks:L_ Fr}
def Qv0 (Inv:Array Bool->St->Prop)
  (step:∀O Y i o,O.size=ops.size->QiT ops O->i∈Region.ready .any ops O->ops[i]? = X o->Inv O Y->∃σ',KJ P C ops o Y σ'/\Inv (O.setIfInBounds i t_) σ')
  (hord:QpJ ops=t_) (hend:∀O Y,O.size=ops.size->(∀i,i<ops.size->O[i]? = X t_)->Inv O Y->∀a w,R C Y a w->up C Q .normal a w):
  ∀(fuel:Nat) (O:Array Bool) (a:Act) (w:World) (Y:St),((List.range ops.size).filter λi=>!(O[i]? == X t_)).length<=fuel->O.size=ops.size->QiT ops O->Inv O Y->R C Y a w->wpAnyIn C.F 0 P .any ops (up C Q) fuel O a w:=by
 intro fuel;have allOf:∀{O:Array Bool},O.size=ops.size->Region.ready .any ops O=[]->∀i,i<ops.size->O[i]? = X t_:=by
  intro O hs hr;apply Classical.byContradiction;intro h;have hex:∃i,i<ops.size/\O[i]? ≠ X t_:=by
   apply Classical.byContradiction;intro h';exact h λi hi=>Classical.byContradiction λhn=>h' ⟨i,hi,hn⟩
  obtain⟨k,h1,h2,h3⟩:=Qsn ops.size hex;have:=QtF hord hs h1 h2 h3;rw[hr]at this;cases this
 induction fuel with
 |zero=>
  intro O a w Y hf hs hd hI hR;have hall:∀i,i<ops.size->O[i]? = X t_:=λi hi=>by
   have:=HO.1 (Nat.le_zero.1 hf);rw[List.filter_eq_nil_iff]at this;simpa using this i (CU.2 hi)
  refine⟨?_,hend O Y hs hall hI a w hR⟩;rw[List.eq_nil_iff_forall_not_mem];intro i hi;obtain⟨o,ho,hl,_⟩:=(TV hs).1 hi;rw[hall i (Cg.1 ho).1]at hl;cases hl
 |succ fuel ih=>
  intro O a w Y hf hs hd hI hR;refine⟨λhr=>hend O Y hs (allOf hs hr) hI a w hR,λi hi=>?_⟩;obtain⟨o,ho,hl,hdeps⟩:=(TV hs).1 hi;obtain⟨σ',hos,hI'⟩:=step O Y i o hs hd hi ho hI;have hin:i<O.size:=by rw[hs];exact(Cg.1 ho).1
  have next:∀a' w',R C σ' a' w'->wpAnyIn C.F 0 P .any ops (up C Q) fuel (O.setIfInBounds i t_) a' w':=λa' w' hR'=>by
   refine ih _ a' w' σ' ?_ (by simpa using hs) (hd.set hs hi) hI' hR';have count:∀(l:L_ Nat),i∈l->(l.filter λj=>!((O.setIfInBounds i t_)[j]? == X t_)).length+1<=(l.filter λj=>!(O[j]? == X t_)).length:=by
    intro l;have le:∀(l:L_ Nat),(l.filter λj=>!((O.setIfInBounds i t_)[j]? == X t_)).length<=(l.filter λj=>!(O[j]? == X t_)).length:=by
     intro l
     induction l with
     |nil=>simp|cons x l ihl=>
      by_cases e:i=x
      ·subst e;rw[List.filter_cons_of_neg (by simp[QfB,hin]),List.filter_cons_of_pos (by rw[hl];simp)];simp;omega
      simp only[Ax,Qsk e];split
      ·simpa using ihl
      exact ihl
    induction l with
    |nil=>intro h;cases h
    |cons x l ihl=>
     intro hm;by_cases e:i=x
     ·subst e;rw[List.filter_cons_of_neg (by simp[QfB,hin]),List.filter_cons_of_pos (by rw[hl];simp)];have:=le l;simp;omega
     have hm':i∈l:=by
      rcases XP.1 hm with h|h
      ·exact absurd h e
      exact h
     have:=ihl hm';simp only[Ax,Qsk e];split
     ·simpa using this
     exact this
   have:=count (List.range ops.size) (CU.2 (by rw[<-hs];exact hin));omega
  unfold wpOpIn;simp only[ho];have:=hos a w hR (wpAnyIn C.F 0 P .any ops (up C Q) fuel (O.setIfInBounds i t_)) (up C Q) next;split
  ·rename_i hw;rw[if_pos hw]at this;exact this
  rename_i hw;rw[if_neg hw]at this;exact⟨λ_ _=>trivial,this⟩
def AK.regionInv {id:Nat}(Inv:Array Bool->St->Prop)(hmix:P.follows .mixedOrders=t_)
  (step:∀O Y i o,O.size=ops.size->QiT ops O->i∈Region.ready .any ops O->ops[i]? = X o->Inv O Y->∃σ',KJ P C ops o Y σ'/\Inv (O.setIfInBounds i t_) σ')
  (hord:QpJ ops=t_) (h0:Inv (Array.replicate ops.size f_) Y) (hend:∀O σ',O.size=ops.size->(∀i,i<ops.size->O[i]? = X t_)->Inv O σ'->AK P C Q (.x .normal) ks σ'):AK P C Q (.c (.region id ops t_)) ks Y:=by
 intro a w hR;refine wpIn_region_any hmix ?_;have hR':R C Y a { w with drawn:=w.drawn+1 }:=by
  obtain⟨Z,hr⟩:=hR;exact⟨Z,hr.step rfl rfl rfl (Yk _) (λ_ _=>rfl)⟩
 refine Qv0 Inv step hord (λO σ' hs hall hI a w hR=>hend O σ' hs hall hI a w hR) ops.size (Array.replicate ops.size f_) a _ Y ?_ (by simp) ?_ h0 hR'
 ·exact Yq (Vo _ _) (by simp)
 intro i o _ h;simp[Array.getElem?_replicate]at h
end
inductive It where
 |add (x:DF) (fl nf:Bool)
 |tn (M:YI)
def XA : L_ It->L_ YI
 |[]=>[]|.add _ _ _::r=>XA r|.tn M::r=>M::XA r
def Vt (base:St):L_ YI->St
 |[]=>base|M::r=>Vt (M.run base) r
def Qsc (x:DF)(M:YI):Bool:=match x.ob with|none=>true|some ob=>M.keepsO x.d&&M.kills.all (λb=>ob.keep1 b)
def Qsd (x:DF)(M:YI):Bool:=M.keeps x.d x.v&&Qsc x M
def alv (x:DF)(fl:Bool)(ms:L_ YI):Bool:=ms.all (λM=>M.keeps x.d x.v)
def QfL (x:DF)(fl:Bool)(ms:L_ YI):Bool:=ms.all (Qsc x)
def Vu (Y:St)(x:DF)(fl:Bool)(ms:L_ YI):Prop:=(alv x fl ms=t_->look Y.fr x.d=X x.v)/\(QfL x fl ms=t_->∀ob,x.ob=X ob->look Y.hp x.d=X ob)
def HQ (ops:Array Oper):Nat->Nat->Nat->Bool
 |0,_,_=>f_|n+1,i,k=>match ops[k]? with|some o=>Rw o i||o.after.toList.any λe=>Region.binds .any e&&HQ ops n i e.on|none=>f_
def Qhk (its:L_ It)(p:Nat):Bool:=match its[p]? with|some (.tn _)=>t_|_=>f_
def QxB (ops:Array Oper)(its:L_ It):Bool:=(List.range its.length).all λi=>(List.range its.length).all λp=>!(Qhk its p)||Nat.beq p i ||
 (match its[i]? with|some (.add _ t_ f_)=>true|some _=>bif Nat.ble (p+1) i then HQ ops 8 p i else HQ ops 8 i p|none=>t_)
def Qdd : L_ It->L_ Nat
 |[]=>[]|.add x _ _::r=>x.d::Qdd r|.tn _::r=>Qdd r
def OI : L_ YI->L_ Nat
 |[]=>[]|M::r=>match M.put with|some (d,_)=>d::OI r|none=>OI r
def QsD : L_ YI->L_ Nat
 |[]=>[]|M::r=>M.sets.map Prod.fst++QsD r
def Qhl : L_ It->L_ Nat
 |[]=>[]|.add x _ _::r=>match x.ob with|some _=>x.d::Qhl r|none=>Qhl r
 |.tn _::r=>Qhl r
def OJ (ms:L_ YI):L_ It->Bool
 |[]=>t_|.add x fl _::r=>(!fl||ms.all (Qsd x))&&OJ ms r|.tn _::r=>OJ ms r
def Qi1 (ms:L_ YI)(S:St):Bool:=S.fr.all (λp=>ms.all λM=>M.keeps p.1 p.2)&&S.hp.all (λp=>ms.all λM=>M.keepsO p.1&&M.kills.all (λb=>p.2.keep1 b))
def QsE (base:St)(its:L_ It):Bool:=Ik (Qdd its)&&(Qdd its).all (λd=>!(XX (keys base.fr) d)&&!(XX (OI (XA its)) d)) &&
 (Qhl its).all (λd=>!(XX (keys base.hp) d))
def QuM (ops:Array Oper)(its:L_ It):Bool:=(List.range its.length).all λi=>(List.range its.length).all λp=>match its[i]? with
 |some (.add x _ _)=>match its[p]? with|some (.tn M)=>x.ob.isNone||!(XX (M.sets.map Prod.fst) x.d)||HQ ops 8 i p|_=>t_
 |_=>t_
section
variable {P:Program}{C:XC}{Q:Exit->St->Prop}{ops:Array Oper}{ks:L_ Fr}{base S:St}{its:L_ It}
def j0 (its:L_ It)(k:Nat):Nat:=(XA (its.take k)).length
def Qgm (P:Program)(C:XC)(ops:Array Oper)(base S:St)(its:L_ It)(i:Nat)(o:Oper):It->Prop
 |.add x fl h=>match fl&&!h with|false=>∀Y,UZ Y (Vt base ((XA its).take (j0 its i)))->(∀k y fl h,its[k]? = X (.add y fl h)->Rw o k=t_->Vu Y y fl (((XA its).take (j0 its i)).drop (j0 its k)))->(x.ob.isSome=t_->look Y.hp x.d=n_)->KJ P C ops o Y (Y.addF x)|true=>∀Y,UZ Y S->(∀k y h,its[k]? = X (.add y t_ h)->Rw o k=t_->Qhb Y y)->(x.ob.isSome=t_->look Y.hp x.d=n_)->KJ P C ops o Y (Y.addF x)
 |.tn M=>∀Y,UZ Y (Vt base ((XA its).take (j0 its i)))->(∀k y fl h,its[k]? = X (.add y fl h)->Rw o k=t_->Vu Y y fl (((XA its).take (j0 its i)).drop (j0 its k)))->KJ P C ops o Y (M.run Y)
def Im {O:Array Bool}(hd:QiT ops O):∀(n:Nat) {i k:Nat},HQ ops n i k=t_->O[k]? = X t_->O[i]? = X t_:=by
 intro n
 induction n with
 |zero=>intro i k h;cases h
 |succ n ih=>
  intro i k h hk;rw[HQ]at h;split at h
  ·rename_i o ho;rw[KG]at h;rcases h with h|h
   ·simp only[Rw,Aw,QN]at h;obtain⟨e,he,hb,hon⟩:=h;have:=hd k o ho hk e (QgW.1 he) hb;rwa[Yp hon]at this
   simp only[Aw,QN]at h;obtain⟨e,he,hb,hm⟩:=h;exact ih hm (hd k o ho hk e (QgW.1 he) hb)
  cases h
def Qlr {O:Array Bool}(hs:O.size=ops.size)(hd:QiT ops O){n i k:Nat}(h:HQ ops n i k=t_)(hk:k∈Region.ready .any ops O):O[i]? = X t_:=by
 obtain⟨o,ho,hl,hdeps⟩:=(TV hs).1 hk;cases n with
 |zero=>cases h
 |succ n=>
  rw[HQ,ho]at h;dsimp only at h;rw[KG]at h;rcases h with h|h
  ·simp only[Rw,Aw,QN]at h;obtain⟨e,he,hb,hon⟩:=h;have:=hdeps e (QgW.1 he) hb;rwa[Yp hon]at this
  simp only[Aw,QN]at h;obtain⟨e,he,hb,hm⟩:=h;exact Im hd n hm (hdeps e (QgW.1 he) hb)
def Fx : ∀{l m:L_ It},XA (l++m)=XA l++XA m:=by
 intro l
 induction l with|nil=>intro m;rfl|cons x l h=>intro m;cases x<;>simp[XA,h]
def QnQ {ms h:L_ YI}:∀{B:St},Vt B (ms++h)=Vt (Vt B ms) h:=by
 induction ms with|nil=>intro B;rfl|cons M ms O=>intro B;exact O
def QuN {its:L_ It}{i:Nat}{M:YI}(h:its[i]? = X (.tn M)):(XA its)[j0 its i]? = X M/\(XA its).take (j0 its i+1)=(XA its).take (j0 its i)++[M]:=by
 have O:=(Xf.1 h).1;have e:its=its.take i++(.tn M::its.drop (i+1)):=by
  have:its.drop i=its[i]::its.drop (i+1):=NE O;have h2:its[i]=.tn M:=by have:=Qv O;rw[h]at this;exact(Option.some.inj this).symm
  rw[h2]at this;rw[<-this,QiN]
 have e2:XA its=XA (its.take i)++(M::XA (its.drop (i+1))):=by
  conv=>lhs;rw[e]
  rw[Fx];rfl
 unfold j0;rw[e2];refine⟨by simp,?_⟩;rw[List.take_append,List.take_append];simp[YV]
def QuO {Y:St}{x:DF}{M:YI}(hk:Qsd x M=t_)(h:Qhb Y x):Qhb (M.run Y) x:=by
 unfold Qsd Qsc at hk;rw[QN]at hk;refine⟨YI.keeps_look hk.1 h.1,λob hob=>?_⟩;rw[hob]at hk;have O:=hk.2;dsimp only at O;rw[QN]at O;exact YI.keepsO_look O.1 O.2 (h.2 ob hob)
def Vu.of {Y:St}{x:DF}{fl:Bool}{ms:L_ YI}(h:Qhb Y x):Vu Y x fl ms:=⟨λ_=>h.1,λ_=>h.2⟩
def Vu.run {Y:St}{x:DF}{fl:Bool}{ms:L_ YI}{M:YI}(h:Vu Y x fl ms):Vu (M.run Y) x fl (ms++[M]):=by
 refine⟨λO=>?_,λO ob hob=>?_⟩
 ·simp only[alv,List.all_append,QN,QaR,List.all_nil,QaO]at O;exact YI.keeps_look O.2 (h.1 (by simp only[alv];exact O.1))
 simp only[QfL,List.all_append,QN,QaR,List.all_nil,QaO]at O;have h1:=h.2 (by simp only[QfL];exact O.1) ob hob;have hk:=O.2;unfold Qsc at hk;rw[hob]at hk;dsimp only at hk;rw[QN]at hk;exact YI.keepsO_look hk.1 hk.2 h1
def Qv1 {p:Nat}{M:YI}(h:its[p]? = X (.tn M)):j0 its (p+1)=j0 its p+1:=by
 have O:=(Xf.1 h).1;unfold j0;rw[JY,h,Fx];simp[XA]
def QnR : ∀{a b:Nat},a<=b->j0 its a<=j0 its b:=by
 intro a b h;unfold j0;obtain⟨c,rfl⟩:=Nat.exists_eq_add_of_le h;rw[List.take_add,Fx];simp
def QuP {p i:Nat}{M:YI}(h:its[p]? = X (.tn M))(O:p<i):j0 its p<j0 its i:=by
 have:=Qv1 h;have:=QnR (its:=its) (show p+1<=i from O);omega
def Qkf : ∀{its:L_ It} {c:Nat},c<(XA its).length->∃p M,its[p]? = X (.tn M)/\j0 its p=c:=by
 intro its
 induction its with
 |nil=>intro c h;simp[XA]at h|cons it its ih=>
  intro c h;cases it with
  |add x fl=>
   obtain⟨p,M,O,h2⟩:=ih (c:=c) h;exact⟨p+1,M,by simpa using O,by simpa[j0,XA] using h2⟩
  |tn M=>
   cases c with
   |zero=>exact⟨0,M,rfl,by simp[j0,XA]⟩|succ c=>
    obtain⟨p,M',O,h2⟩:=ih (c:=c) (by simpa[XA] using h);exact⟨p+1,M',by simpa using O,by simpa[j0,XA] using h2⟩
def QsF {p:Nat}{M:YI}(h:its[p]? = X (.tn M)):j0 its p<(XA its).length:=(Xf.1 (QuN h).1).1
def UZ.stable : ∀{ms:L_ YI} {B S:St},Qi1 ms S=t_->UZ B S->∀n,UZ (Vt B (ms.take n)) S:=by
 intro ms
 induction ms with
 |nil=>intro B S _ h n;simpa[Vt] using h|cons M ms ih=>
  intro B S O h n;cases n with
  |zero=>exact h|succ n=>
   unfold Qi1 at O;rw[QN,XS,XS]at O;refine ih (B:=M.run B) ?_ ⟨λt v hv=>?_,λp ob hob=>?_⟩ n
   ·unfold Qi1;rw[QN,XS,XS];exact⟨λp hp=>by have:=O.1 p hp;rw[QaR,QN]at this;exact this.2,λp hp=>by have:=O.2 p hp;rw[QaR,QN]at this;exact this.2⟩
   ·have:=O.1 (t,v) (JX hv);rw[QaR,QN]at this;exact YI.keeps_look this.1 (h.1 t v hv)
   have:=O.2 (p,ob) (JX hob);rw[QaR,QN,QN]at this;exact YI.keepsO_look this.1.1 this.1.2 (h.2 p ob hob)
def Qhm : ∀{its:L_ It} {i:Nat} {x:DF} {fl nf:Bool},its[i]? = X (.add x fl nf)->x.d∈Qdd its/\(x.ob.isSome=t_->x.d∈Qhl its):=by
 intro its
 induction its with
 |nil=>intro i x fl nf h;simp at h|cons it its ih=>
  intro i x fl nf h;cases i with
  |zero=>
   simp at h;subst h;refine⟨Yc,λO=>?_⟩;rw[Qhl];split
   ·exact Yc
   rename_i he;rw[he]at O;cases O
  |succ i=>
   obtain⟨a,b⟩:=ih (i:=i) (by simpa using h);cases it with
   |add y fl' nf'=>
    refine⟨Ys _ a,λO=>?_⟩;rw[Qhl];split
    ·exact Ys _ (b O)
    exact b O
   |tn M=>exact⟨a,b⟩
def QlH : ∀{its:L_ It},(Qdd its).Nodup->∀{i k:Nat} {x y:DF} {fl O nf nf':Bool},its[i]? = X (.add x fl nf)->its[k]? = X (.add y O nf')->x.d=y.d->i=k:=by
 intro its
 induction its with
 |nil=>intro _ i k x y fl O nf nf' h;simp at h|cons it its ih=>
  intro hn i k x y fl O nf nf' hi hk e;cases it with
  |tn M=>
   cases i with
   |zero=>simp at hi|succ i=>cases k with|zero=>simp at hk|succ k=>rw[ih hn (i:=i) (k:=k) (by simpa using hi) (by simpa using hk) e]
  |add z f g=>
   rw[Qdd,NI]at hn;cases i with
   |zero=>
    cases k with
    |zero=>rfl|succ k=>
     simp at hi;obtain⟨rfl,rfl,rfl⟩:=hi;exact absurd (by rw[e];exact(Qhm (i:=k) (by simpa using hk)).1) hn.1
   |succ i=>
    cases k with
    |zero=>
     simp at hk;obtain⟨rfl,rfl,rfl⟩:=hk;exact absurd (by rw[<-e];exact(Qhm (i:=i) (by simpa using hi)).1) hn.1
    |succ k=>rw[ih hn.2 (i:=i) (k:=k) (by simpa using hi) (by simpa using hk) e]
def QxC {M:YI}{B:St}{t:Nat}{v:V}(h:look (M.run B).fr t=X v):(∃u,look B.fr t=X u)\/∃u,M.put=X (t,u):=by
 have kill:∀{l:L_ Nat} {B:St} {v:V},look (B.killL l).fr t=X v->∃u,look B.fr t=X u:=by
  intro l
  induction l with
  |nil=>intro B v h;exact⟨v,h⟩|cons b l ih=>
   intro B v h;obtain⟨u,O⟩:=ih h;have O:look (MA b B.fr) t=X u:=O;rw[Qaa]at O;obtain⟨w,hw,_⟩:=Yo.1 O;exact⟨w,hw⟩
 unfold YI.run at h;split at h
 ·rw[QpN]at h;exact .inl (kill h)
 rename_i d u hp;by_cases e:d=t
 ·subst e;exact .inr ⟨u,hp⟩
 have h:look ((d,u)::((B.killL M.kills).sets M.sets).fr) t=X v:=h;rw[QA _ _ e,QpN]at h;exact .inl (kill h)
def Qv2 {M:YI}{B:St}{p:Nat}{ob:Ob}(h:look (M.run B).hp p=X ob):(∃u,look B.hp p=X u)\/p∈M.sets.map Prod.fst:=by
 have kill:∀{l:L_ Nat} {B:St} {ob:Ob},look (B.killL l).hp p=X ob->∃u,look B.hp p=X u:=by
  intro l
  induction l with
  |nil=>intro B ob h;exact⟨ob,h⟩|cons b l ih=>
   intro B ob h;obtain⟨u,O⟩:=ih h;have O:look (Bj b B.hp) p=X u:=O;rw[Pw]at O;split at O
   ·cases O
   obtain⟨w,hw,_⟩:=Yo.1 O;exact⟨w,hw⟩
 have sets:∀{l:H_} {B:St} {ob:Ob},look (B.sets l).hp p=X ob->(∃u,look B.hp p=X u)\/p∈l.map Prod.fst:=by
  intro l
  induction l with
  |nil=>intro B ob h;exact .inl ⟨ob,h⟩|cons q l ih=>
   intro B ob h;by_cases e:q.1=p
   ·exact .inr (by rw[GC,e];exact Yc)
   have h:look ((B.sets l).set q.1 q.2).hp p=X ob:=h;rw[St.look_set_other _ _ e]at h;exact(ih h).imp id (Ys _)
 have h1:look ((B.killL M.kills).sets M.sets).hp p=X ob:=by
  unfold YI.run at h;split at h<;>exact h
 rcases sets h1 with⟨u,O⟩|h2
 ·exact .inl (kill O)
 exact .inr h2
def QxD : ∀{ms:L_ YI} {B:St} {t:Nat} {v:V},look (Vt B ms).fr t=X v->(∃u,look B.fr t=X u)\/t∈OI ms:=by
 intro ms
 induction ms with
 |nil=>intro B t v h;exact .inl ⟨v,h⟩|cons M ms ih=>
  intro B t v h;rcases ih h with⟨u,O⟩|h
  ·rcases QxC O with h|⟨u,hp⟩
   ·exact .inl h
   refine .inr ?_;rw[OI,hp];exact Yc
  refine .inr ?_;rw[OI];split
  ·exact Ys _ h
  exact h
def Qv3 : ∀{ms:L_ YI} {B:St} {p:Nat} {ob:Ob},look (Vt B ms).hp p=X ob->(∃u,look B.hp p=X u)\/p∈QsD ms:=by
 intro ms
 induction ms with
 |nil=>intro B p ob h;exact .inl ⟨ob,h⟩|cons M ms ih=>
  intro B p ob h;rcases ih h with⟨u,O⟩|h
  ·rcases Qv2 O with h|h
   ·exact .inl h
   exact .inr (SB _ h)
  exact .inr (Qg0 _ h)
def QtJ : ∀{ms:L_ YI} {n t:Nat},t∈OI (ms.take n)->t∈OI ms:=by
 intro ms
 induction ms with
 |nil=>intro n t h;simpa using h|cons M ms O=>
  intro n t h;cases n with
  |zero=>simp[OI]at h|succ n=>
   rw[List.take_succ_cons,OI]at h;rw[OI];split at h
   ·rcases XP.1 h with rfl|h
    ·exact Yc
    exact Ys _ (O h)
   exact O h
def QBu (base:St)(its:L_ It)(h:Array Bool)(Y:St):Prop:=∃j,j<=(XA its).length/\(∀p M,its[p]? = X (.tn M)->(h[p]? = X t_↔j0 its p<j))/\UZ Y (Vt base ((XA its).take j))/\
 ∀i x fl O,its[i]? = X (.add x fl O)->(h[i]? = X t_->Vu Y x fl (((XA its).take j).drop (j0 its i)))/\(h[i]? ≠ X t_->x.ob.isSome=t_->look Y.hp x.d=n_)/\(fl=t_->h[i]? = X t_->OJ (XA its) its=t_\/j<(XA its).length->Qhb Y x)
def QzJ (ops:Array Oper)(its:L_ It):Bool:=Qhk its (its.length-1)&&(List.range (its.length-1)).all λi=>HQ ops 8 i (its.length-1)
def QpP (ops:Array Oper)(ms:L_ YI)(its:L_ It):Bool:=OJ ms its||(OJ (ms.take (ms.length-1)) its&&QzJ ops its)
def QxE (its:L_ It)(i:Nat):Bool:=match its[i]? with|some (.add _ t_ f_)=>t_|_=>f_
def QzK (ops:Array Oper)(its:L_ It)(p:Nat):Bool:=Qhk its p&&Nat.beq (j0 its p+1) (XA its).length&&(List.range its.length).all λi=>!QxE its i||HQ ops 8 i p
def QpQ (ops:Array Oper)(its:L_ It)(ms:L_ YI)(S:St):Bool:=Qi1 ms S||(Qi1 (ms.take (ms.length-1)) S&&(List.range its.length).any (QzK ops its))
def AK.drawV {id:Nat}(hmix:P.follows .mixedOrders=t_)(hlen:its.length=ops.size)(hord:QpJ ops=t_)(hov:QxB ops its=t_)(hap:QsE base its=t_)(hsv:QuM ops its=t_)(hfk:QpP ops (XA its) its=t_)(hsk:QpQ ops its (XA its) S=t_)(hS:UZ base S)
  (steps:∀i o it,ops[i]? = X o->its[i]? = X it->Qgm P C ops base S its i o it)
  (k:∀Y,UZ Y (Vt base (XA its))->(∀i x fl nf,its[i]? = X (.add x fl nf)->Vu Y x fl ((XA its).drop (j0 its i)))->AK P C Q (.x .normal) ks Y):AK P C Q (.c (.region id ops t_)) ks base:=by
 simp only[QsE,QN,XS,Ga]at hap;obtain⟨⟨hnd,hd1⟩,hd2⟩:=hap;have hnd:=ED.1 hnd;have ord:∀i p it M,its[i]? = X it->its[p]? = X (.tn M)->p≠i->(∀x,it≠.add x t_ f_)->(p<i->HQ ops 8 p i=t_)/\(i<p->HQ ops 8 i p=t_):=by
  intro i p it M hi hp hne hnf;have hil:=(Xf.1 hi).1;have hpl:=(Xf.1 hp).1;unfold QxB at hov;rw[XS]at hov;have h1:=hov i (CU.2 hil);rw[XS]at h1;have h2:=h1 p (CU.2 hpl);have hm:Qhk its p=t_:=by unfold Qhk;rw[hp]
  have hb:Nat.beq p i=f_:=by cases hb:Nat.beq p i with|true=>exact absurd (Yp hb) hne|false=>rfl
  rw[hm,hb,hi]at h2;simp only[Jq,Qco]at h2;have h3:(bif Nat.ble (p+1) i then HQ ops 8 p i else HQ ops 8 i p)=t_:=by
   cases it with
   |add x fl nf=>cases fl with
    |true=>cases nf with|false=>exact absurd rfl (hnf x)|true=>exact h2
    |false=>exact h2
   |tn M=>exact h2
  refine⟨λh=>?_,λh=>?_⟩
  ·rw[show Nat.ble (p+1) i=t_ from Vp h]at h3;exact h3
  have:Nat.ble (p+1) i=f_:=by cases hc:Nat.ble (p+1) i with|true=>have:=JC hc;omega|false=>rfl
  rw[this]at h3;exact h3
 have sets:∀(i p:Nat) (x:DF) (fl nf:Bool) (M:YI),its[i]? = X (.add x fl nf)->its[p]? = X (.tn M)->x.ob.isSome=t_->x.d∈M.sets.map Prod.fst->HQ ops 8 i p=t_:=by
  intro i p x fl nf M hi hp hob hmem;have hil:=(Xf.1 hi).1;have hpl:=(Xf.1 hp).1;unfold QuM at hsv;rw[XS]at hsv;have h1:=hsv i (CU.2 hil);rw[XS]at h1;have h2:=h1 p (CU.2 hpl);rw[hi,hp]at h2;dsimp only at h2;rw[OF.2 hmem]at h2;have:x.ob.isNone=f_:=by cases hx:x.ob with
   |none=>rw[hx]at hob;cases hob
   |some=>rfl
  rw[this]at h2;simpa using h2
 have memSets:∀{ms:L_ YI} {d:Nat},d∈QsD ms->∃(c:Nat) (M:YI),ms[c]? = X M/\d∈M.sets.map Prod.fst:=by
  intro ms
  induction ms with
  |nil=>intro d h;cases h
  |cons N ms ih=>
   intro d h;rcases YT.1 h with h|h
   ·exact⟨0,N,rfl,h⟩
   obtain⟨c,M,h1,h2⟩:=ih h;exact⟨c+1,M,by simpa using h1,h2⟩
 have all:∀{l:L_ It} {ms:L_ YI},OJ ms l=t_->∀{q:Nat} {y:DF} {nf:Bool},l[q]? = X (.add y t_ nf)->ms.all (Qsd y)=t_:=by
  intro l
  induction l with
  |nil=>intro ms _ q y nf h;simp at h|cons it l ih=>
   intro ms h q y nf hq;cases it with
   |add z f g=>
    rw[OJ,QN]at h;cases q with
    |zero=>simp at hq;obtain⟨rfl,rfl,rfl⟩:=hq;simpa using h.1
    |succ q=>exact ih h.2 (by simpa using hq)
   |tn M=>
    cases q with|zero=>simp at hq|succ q=>exact ih h (by simpa using hq)
 have lst:OJ (XA its) its=t_\/(OJ ((XA its).take ((XA its).length-1)) its=t_/\(∃M,its[its.length-1]? = X (.tn M)/\j0 its (its.length-1)+1=(XA its).length)/\∀i,i<its.length-1->HQ ops 8 i (its.length-1)=t_):=by
  unfold QpP at hfk;rw[KG,QN]at hfk;refine hfk.imp_right λh=>⟨h.1,?_⟩;have h2:=h.2;unfold QzJ at h2;rw[QN,XS]at h2;obtain⟨p1,p2⟩:=h2;refine⟨?_,λi hi=>p2 i (CU.2 hi)⟩;unfold Qhk at p1;split at p1
  ·rename_i M hM;refine⟨M,hM,?_⟩;have h3:=Qv1 hM;have hl:=(Xf.1 hM).1;have h4:j0 its its.length=(XA its).length:=by unfold j0;rw[Uf]
   rw[show its.length-1+1=its.length by omega]at h3;omega
  cases p1
 refine AK.regionInv (QBu base its) hmix ?_ hord ?_ ?_
 ·intro O Y i o hs hd hi ho ⟨j,hj,hmu,hsub,hadd⟩;obtain⟨o',ho',hl,hdeps⟩:=(TV hs).1 hi;rw[ho]at ho';cases ho';have hio:i<ops.size:=(Cg.1 ho).1;have hil:i<its.length:=by omega
  have hin:i<O.size:=by omega
  obtain⟨it,hit⟩:∃it,its[i]? = X it:=⟨_,Qv hil⟩;have hnl:O[i]? ≠ X t_:=by rw[hl];simp
  have hst:=steps i o it ho hit;have depsL:∀{q:Nat},Rw o q=t_->O[q]? = X t_:=λhdep=>by
   simp only[Rw,Aw,QN]at hdep;obtain⟨e,he,hb,hon⟩:=hdep;have:=hdeps e (QgW.1 he) hb;rwa[Yp hon]at this
  have stage:(∀x,it≠.add x t_ f_)->j=j0 its i:=by
   intro hnf;apply Nat.le_antisymm
   ·rcases DP (j0 its i) j with hlt|h
    ·obtain⟨p,M,hp,hpj⟩:=Qkf (its:=its) (c:=j0 its i) (by omega);have hpl:O[p]? = X t_:=(hmu p M hp).2 (by omega);rcases Nat.lt_trichotomy p i with h|h|h
     ·have:=QuP hp h;omega
     ·subst h;exact absurd hpl hnl
     have hm:=(ord i p it M hit hp (by omega) hnf).2 h;exact absurd (Im hd 8 hm hpl) hnl
    exact h
   rcases Nat.eq_zero_or_pos (j0 its i)with h|h
   ·omega
   have hle:j0 its i<=(XA its).length:=by
    have h1:=QnR (its:=its) (show i<=its.length by omega);have h2:j0 its its.length=(XA its).length:=by unfold j0;rw[Uf]
    omega
   obtain⟨p,M,hp,hpj⟩:=Qkf (its:=its) (c:=j0 its i-1) (by omega);have hpi:p<i:=by
    rcases Nat.lt_trichotomy p i with h'|h'|h'
    ·exact h'
    ·subst h';omega
    have:=QnR (its:=its) (Nat.le_of_lt h');omega
   have hm:=(ord i p it M hit hp (by omega) hnf).1 hpi;have:=(hmu p M hp).1 (Qlr hs hd hm hi);omega
  have setL:∀q,(O.setIfInBounds i t_)[q]? = X t_↔q=i\/O[q]? = X t_:=λq=>by
   by_cases e:i=q
   ·subst e;simp[QfB,hin]
   rw[Qsk e];simp[Ne.symm e]
  cases it with
  |tn M=>
   have hjj:=stage λx e=>by cases e
   subst hjj;have hM:=QuN hit;have hos:KJ P C ops o Y (M.run Y):=hst Y hsub λq y fl nf hq hdep=>(hadd q y fl nf hq).1 (depsL hdep);have flt:∀{q:Nat} {y:DF} {fl nf:Bool},fl=t_->O[q]? = X t_->its[q]? = X (.add y fl nf)->OJ (XA its) its=t_\/j0 its i+1<(XA its).length->Qhb (M.run Y) y:=by
    intro q y fl nf hfl hql hq hz;subst hfl;have h1:=(hadd q y t_ nf hq).2.2 rfl hql (hz.imp_right λh=>by omega);refine QuO ?_ h1;rcases lst with h|⟨h,_,_⟩
    ·exact XS.1 (all h hq) M (XB hM.1)
    rcases hz with hz|hz
    ·exact XS.1 (all hz hq) M (XB hM.1)
    refine XS.1 (all h hq) M (XB (i:=j0 its i) ?_);rw[List.getElem?_take_of_lt (by omega)];exact hM.1
   refine⟨_,hos,j0 its i+1,by have:=QsF hit;omega,λp M' hp=>?_,?_,λq y fl nf hq=>⟨λhql=>?_,λhql hob=>?_,λhfl hql hz=>?_⟩⟩
   ·rw[setL];constructor
    ·rintro (rfl|h)
     ·omega
     have:=(hmu p M' hp).1 h;omega
    intro h;rcases DP (j0 its p) (j0 its i)with h1|h1
    ·exact .inr ((hmu p M' hp).2 h1)
    left;rcases Nat.lt_trichotomy p i with h'|h'|h'
    ·have:=QuP hp h';omega
    ·exact h'
    have:=QuP hit h';omega
   ·rw[hM.2,QnQ];exact hsub.run M
   ·rcases(setL q).1 hql with rfl|hql
    ·rw[hit]at hq;cases hq
    rcases DP (j0 its i) (j0 its q)with hlt|hle
    ·cases fl with
     |true=>
      refine Vu.of (flt rfl hql hq ?_);rcases lst with h|⟨_,⟨M',hp,hpj⟩,_⟩
      ·exact .inl h
      right;have hqi:q<=its.length-1:=by have:=(Xf.1 hq).1;omega
      have:=QnR (its:=its) hqi;omega
     |false=>
      exfalso;have hiq:i<q:=by
       rcases DP i q with h|h
       ·exact h
       have:=QnR (its:=its) h;omega
      have hm:=(ord q i _ M hq hit (by omega) (λx e=>by cases e)).1 hiq;exact absurd (Im hd 8 hm hql) hnl
    rw[hM.2,List.drop_append_of_le_length (by simp;have:=QsF hit;omega)];exact((hadd q y fl nf hq).1 hql).run
   ·have hqi:q≠i:=λe=>by subst e;rw[hit]at hq;cases hq
    have hql':O[q]? ≠ X t_:=λh=>hql ((setL q).2 (.inr h));refine YI.none_look ?_ ((hadd q y fl nf hq).2.1 hql' hob);rw[XS];intro r hr;cases hb:Nat.beq r.1 y.d with
    |false=>rfl|true=>
     have hm:=sets q i y fl nf M hq hit hob (by rw[<-Yp hb];exact List.mem_map_of_mem hr);exact absurd (Qlr hs hd hm hi) hql'
   refine flt hfl ((setL q).1 hql |>.resolve_left λe=>by subst e;rw[hit]at hq;cases hq) hq hz
  |add x fl nf=>
   have hfresh:x.ob.isSome=t_->look Y.hp x.d=n_:=(hadd i x fl nf hit).2.1 hnl;have hos:KJ P C ops o Y (Y.addF x):=by
    have hB:¬(fl=t_/\nf=f_)->(∀Y,UZ Y (Vt base ((XA its).take (j0 its i)))->(∀k y fl nf,its[k]? = X (.add y fl nf)->Rw o k=t_->Vu Y y fl (((XA its).take (j0 its i)).drop (j0 its k)))->(x.ob.isSome=t_->look Y.hp x.d=n_)->KJ P C ops o Y (Y.addF x))->KJ P C ops o Y (Y.addF x):=λhne hst=>by
     have hjj:=stage λy e=>by cases e;exact hne ⟨rfl,rfl⟩
     subst hjj;exact hst Y hsub (λq y fl nf hq hdep=>(hadd q y fl nf hq).1 (depsL hdep)) hfresh
    cases fl with
    |true=>cases nf with
     |false=>
      have h1:UZ base S:=hS;have hZ:OJ (XA its) its=t_\/j<(XA its).length:=by
       refine lst.imp_right λ⟨_,⟨M,hp,hpj⟩,hall⟩=>?_;rcases DP j (XA its).length with h|h
       ·exact h
       exfalso;have hpl:=(hmu _ M hp).2 (by omega);have hne:i≠its.length-1:=λe=>by rw[<-e,hit]at hp;cases hp
       exact absurd (Im hd 8 (hall i (by omega)) hpl) hnl
      have h2:UZ (Vt base ((XA its).take j)) S:=by
       unfold QpQ at hsk;rw[KG]at hsk;rcases hsk with hsk|hsk
       ·exact UZ.stable hsk h1 j
       rw[QN,Aw]at hsk;obtain⟨hs1,p,_,hp⟩:=hsk;unfold QzK at hp;simp only[QN]at hp;obtain⟨⟨p1,p2⟩,p3⟩:=hp;have hjm:j<=(XA its).length-1:=by
        rcases DP ((XA its).length-1) j with hlt|h
        ·exfalso;obtain⟨M,hM⟩:∃M,its[p]? = X (.tn M):=by
          unfold Qhk at p1;split at p1
          ·exact⟨_,‹_›⟩
          cases p1
         have p2:=Yp p2;have hpl:=(hmu p M hM).2 (by omega);have h3:=XS.1 p3 i (CU.2 hil);have hf:QxE its i=t_:=by unfold QxE;rw[hit]
         rw[hf]at h3;exact absurd (Im hd 8 h3 hpl) hnl
        exact h
       have h4:=UZ.stable hs1 h1 j;rwa[List.take_take,OB hjm]at h4
      exact hst Y ⟨λt v h=>hsub.1 t v (h2.1 t v h),λp ob h=>hsub.2 p ob (h2.2 p ob h)⟩ (λq y nf hq hdep=>(hadd q y t_ nf hq).2.2 rfl (depsL hdep) hZ) hfresh
     |true=>exact hB (λe=>by cases e.2) hst
    |false=>exact hB (λe=>by cases e.1) hst
   obtain⟨hmd,hmo⟩:=Qhm hit;have frK:∀t v,t≠x.d->look Y.fr t=X v->look (Y.addF x).fr t=X v:=by
    intro t v hne h;unfold St.addF;split
    ·show look ((x.d,x.v)::Y.fr) t=X v;rw[QA _ _ (Ne.symm hne)];exact h
    show look ((x.d,x.v)::Y.fr) t=X v;rw[QA _ _ (Ne.symm hne)];exact h
   have hpK:∀p,(p≠x.d\/x.ob=n_)->look (Y.addF x).hp p=look Y.hp p:=by
    intro p hne;unfold St.addF;split
    ·rfl
    rename_i ob hob;rcases hne with hne|hne
    ·exact Y.look_set_other _ (Ne.symm hne)
    rw[hob]at hne;cases hne
   refine⟨_,hos,j,hj,λp M hp=>?_,⟨λt v h=>?_,λp ob h=>?_⟩,λq y fl' nf' hq=>⟨λhql=>?_,λhql hob=>?_,λhfl hql hz=>?_⟩⟩
   ·rw[setL,<-hmu p M hp];have:p≠i:=λe=>by subst e;rw[hit]at hp;cases hp
    simp[this]
   ·refine frK t v (λe=>?_) (hsub.1 t v h);subst e;have h1:=hd1 _ hmd;rcases QxD h with⟨u,hu⟩|h2
    ·rw[Qc8 hu]at h1;cases h1.1
    rw[OF.2 (QtJ h2)]at h1;cases h1.2
   ·have hne:p≠x.d\/x.ob=n_:=by
     cases hob:x.ob with
     |none=>exact .inr rfl|some ob'=>
      refine .inl λe=>?_;subst e;have hob':x.ob.isSome=t_:=by rw[hob];rfl
      have h1:=hd2 _ (hmo hob');rcases Qv3 h with⟨u,hu⟩|h2
      ·rw[Qc8 hu]at h1;cases h1
      obtain⟨c,M,h3,h4⟩:=memSets h2;have hc:c<j:=by
       have:=(Xf.1 h3).1;simp at this;omega
      have h3':(XA its)[c]? = X M:=by rw[List.getElem?_take_of_lt hc]at h3;exact h3
      obtain⟨p',M',hp',hpc⟩:=Qkf (its:=its) (c:=c) (Xf.1 h3').1;have h5:=(QuN hp').1;rw[hpc,h3']at h5;cases h5;have hm:=sets i p' x fl nf M hit hp' hob' h4;exact absurd (Im hd 8 hm ((hmu p' M hp').2 (by omega))) hnl
    rw[hpK p hne];exact hsub.2 p ob h
   ·by_cases e:q=i
    ·subst e;rw[hit]at hq;cases hq;refine Vu.of ⟨?_,λob hob=>?_⟩
     ·unfold St.addF;split<;>exact QD _ _ _
     unfold St.addF;rw[hob];exact QD _ _ _
    have hql':O[q]? = X t_:=((setL q).1 hql).resolve_left e;obtain⟨h1,h2⟩:=(hadd q y fl' nf' hq).1 hql';have hne:y.d≠x.d:=λh=>e (QlH hnd hq hit h);exact⟨λhal=>frK _ _ hne (h1 hal),λhal ob hob=>by rw[hpK _ (.inl hne)];exact h2 hal ob hob⟩
   ·have e:q≠i:=λe=>hql ((setL q).2 (.inl e));have hql':O[q]? ≠ X t_:=λh=>hql ((setL q).2 (.inr h));have hne:y.d≠x.d:=λh=>e (QlH hnd hq hit h);rw[hpK _ (.inl hne)];exact(hadd q y fl' nf' hq).2.1 hql' hob
   by_cases e:q=i
   ·subst e;rw[hit]at hq;cases hq;refine⟨?_,λob hob=>?_⟩
    ·unfold St.addF;split<;>exact QD _ _ _
    unfold St.addF;rw[hob];exact QD _ _ _
   have hql':O[q]? = X t_:=((setL q).1 hql).resolve_left e;obtain⟨h1,h2⟩:=(hadd q y fl' nf' hq).2.2 hfl hql' hz;have hne:y.d≠x.d:=λh=>e (QlH hnd hq hit h);exact⟨frK _ _ hne h1,λob hob=>by rw[hpK _ (.inl hne)];exact h2 ob hob⟩
 ·refine⟨0,Ii _,λp M _=>by simp[Array.getElem?_replicate],⟨λ_ _ h=>h,λ_ _ h=>h⟩,λi x fl nf hi=>⟨λh=>by simp[Array.getElem?_replicate]at h,λ_ hob=>?_,λ_ h=>by simp[Array.getElem?_replicate]at h⟩⟩;have h1:=hd2 _ ((Qhm hi).2 hob);cases h:look base.hp x.d with|none=>rfl|some ob=>rw[Qc8 h]at h1;cases h1
 intro O Y hs hall ⟨j,hj,hmu,hsub,hadd⟩;have hjt:j=(XA its).length:=by
  rcases DP j (XA its).length with h|h
  ·obtain⟨p,M,hp,hpj⟩:=Qkf (its:=its) h;have:=(hmu p M hp).1 (hall p (by have:=(Xf.1 hp).1;omega));omega
  omega
 subst hjt;rw[Uf]at hsub;refine k Y hsub λi x fl nf hi=>?_;have:=(hadd i x fl nf hi).1 (hall i (by have:=(Xf.1 hi).1;omega));rwa[Uf]at this
end
inductive MD where
 |s
 |st (r:List V) (rs:List (List V))
 |app (rs:List (List V)) (m:Nat)
 |any (M:YI)
 |cm (en:Ent) (M N:List (Nat×Nat)) (dead:List Nat) (ms:List Mode) (outs:List (Nat×Ob)) (r:V) (same:List Nat)
inductive Dw where
 |a (h:Dy) (sv:Option (List (Option Nat)×V)) (fl:Bool) (nf:Bool:=f_)
 |m (md:MD)
def QxF (P:Program)(T:Az)(f:Operand->O_ V)(hp:Nat->O_ Ob)(c:Call):Ent->O_ (Nat×L_ V×Prop)
 |.fn=>match c.callee with
  |.value (.func g)=>bif XX T.en g then match evs f c.args.toList with|some vs=>X (g,vs,True)|none=>n_
   else n_
  |_=>n_
 |.clo=>match c.callee with
  |.value x=>match f x with
   |some (.clo (.func g) fs h)=>bif XX T.en g then match evs f c.args.toList with|some vs=>X (g,fs++(vs++h),True)|none=>n_
    else n_
   |_=>n_
  |_=>n_
 |.me g=>match c.callee with
  |.invoke x name=>match f x with
   |some (.ifc t u)=>bif XX T.en g then match evs f c.args.toList with|some vs=>X (g,u::vs,(CW P t name=X (g,t_)/\QlE P t=t_)\/(CW P t name=X (g,f_)/\Qc9 P t=t_))|none=>n_
    else n_
   |_=>n_
  |_=>n_
 |.mv g e=>match c.callee with
  |.invoke x name=>match f x with
   |some (.ifc t (.loc b 0 off))=>match hp b with
    |some (.var h)=>match h[off]? with
     |some r=>bif XX T.en g then match evs f c.args.toList with|some vs=>X (g,r::vs,CW P t name=X (g,f_)/\QeI P t e=t_/\AW P e=X f_)|none=>n_
      else n_
     |none=>n_
    |_=>n_
   |_=>n_
  |_=>n_
def QuQ {P:Program}{C:XC}{T:Az}{f:Operand->O_ V}{hp:Nat->O_ Ob}{o:Oper}{c:Call}{en:Ent}{g:Nat}{vs:L_ V}{ψ:Prop}{Y:St}(ok:Ek P T)(ho:o.op=.call c)(e:QxF P T f hp c en=X (g,vs,ψ))(hφ:ψ)
  (h1:∀x u,f x=X u->Y.opd x=X u) (h2:∀b u,hp b=X u->look Y.hp b=X u):JP P C o Y g vs:=by
 obtain⟨ce,ags,ts⟩:=c;unfold QxF at e;split at e
 ·split at e
  ·rename_i f' h;dsimp only at h;subst h;replace e:=Yn e;obtain⟨O,e⟩:=e;split at e
   ·rename_i vs' hv;cases e;exact JP.fn ho (ok.en O) (Cj h1 hv)
   cases e
  cases e
 ·split at e
  ·rename_i x h;dsimp only at h;subst h;split at e
   ·rename_i f' fs cs hx;replace e:=Yn e;obtain⟨O,e⟩:=e;split at e
    ·rename_i vs' hv;cases e;exact JP.clo ho (h1 _ _ hx) (ok.en O) (Cj h1 hv)
    cases e
   cases e
  cases e
 ·split at e
  ·rename_i x name h;dsimp only at h;subst h;split at e
   ·rename_i t u hx;replace e:=Yn e;obtain⟨O,e⟩:=e;split at e
    ·rename_i vs' hv;cases e;exact JP.meth (r:=u) ho (h1 _ _ hx) hφ (ok.en O) (Cj h1 hv)
    cases e
   cases e
  cases e
 split at e
 ·rename_i x name h;dsimp only at h;subst h;split at e
  ·rename_i t b off hx;split at e
   ·rename_i cs hb;split at e
    ·rename_i r hr0;replace e:=Yn e;obtain⟨O,e⟩:=e;split at e
     ·rename_i vs' hv;cases e;exact JP.methV ho (h1 _ _ hx) hφ.1 hφ.2.1 hφ.2.2 (h2 _ _ hb) hr0 (ok.en O) (Cj h1 hv)
     cases e
    cases e
   cases e
  cases e
 cases e
def Qv4 {bk:Nat->O_ Nat}{hp hp':Nat->O_ Ob}(h:∀b u,hp b=X u->hp' b=X u):∀{M:L_ (Nat×Nat)} {l:H_},Nm bk hp M=X l->Nm bk hp' M=X l:=by
 intro M
 induction M with
 |nil=>intro l e;exact e|cons p M ih=>
  obtain⟨d,s⟩:=p;intro l e;rw[Nm]at e ⊢;split at e
  ·rename_i ob hob;split at e
   ·rename_i ob' O;split at e
    ·rename_i l' hl;simp only[h _ _ hob,O,ih hl];exact e
    cases e
   cases e
  cases e
def QuR {Y:St}{M N:L_ (Nat×Nat)}{dead:L_ Nat}{outs:H_}(h:Ug ⟨[],N.map λp=>(p.1,Ob.itr0)⟩ M N dead outs=t_):Ug Y M N dead outs=t_:=by
 simp only[Ug,QN,XS]at h ⊢;obtain⟨⟨h1,h2⟩,O⟩:=h;refine⟨⟨h1,h2⟩,λp hp=>⟨⟨?_,(O p hp).1.2⟩,(O p hp).2⟩⟩;have hn:∀{l:L_ (Nat×Nat)},p∈l->(look (l.map λp=>(p.1,Ob.itr0)) p.1).isNone=f_:=by
  intro l hp
  induction l with
  |nil=>cases hp
  |cons q l ih=>
   show(look ((q.1,Ob.itr0)::l.map λp=>(p.1,Ob.itr0)) p.1).isNone=f_;by_cases e:q.1=p.1
   ·rw[e,QD];rfl
   rw[QA _ _ e];refine ih ?_;rcases XP.1 hp with h|h
   ·exact absurd (congrArg Prod.fst h).symm e
   exact h
 have h4:=(O p hp).1.1;rw[hn hp,Vk]at h4;rw[h4];rfl
def Qhn {Y:St}(dead:L_ Nat):∀(l:H_),(Y.killL dead).sets l=Y.after dead l:=by
 intro l
 induction l with|nil=>rfl|cons p l h=>rw[St.sets,h];rfl
def QuS (hp:Nat->O_ Ob)(h:H_):L_ Nat->Prop
 |[]=>True|b::r=>hp b=look h b/\QuS hp h r
def Qv5 {hp:Nat->O_ Ob}{O:H_}:∀{l:L_ Nat},QuS hp O l->∀b,XX l b=t_->hp b=look O b:=by
 intro l
 induction l with
 |nil=>intro _ b h;cases h
 |cons a l ih=>
  intro h b hb;rw[XX]at hb;cases e:Nat.beq a b with|true=>rw[<-Yp e];exact h.1|false=>rw[e]at hb;exact ih h.2 b (by simpa using hb)
def QtK {O:L_ Nat}:∀{l:H_} {b:Nat},look (l.filter λp=>!(XX O p.1)) b=if XX O b=t_ then n_ else look l b:=by
 intro l
 induction l with
 |nil=>intro b;simp[look]|cons p l ih=>
  intro b;rw[Ax];by_cases e:p.1=b
  ·subst e;cases h:XX O p.1 with
   |true=>
    simp only[Jq,Bool.false_eq_true,if_false];rw[ih,h];simp
   |false=>
    simp only[Qcq,if_true,Bool.false_eq_true,if_false];obtain⟨k,v⟩:=p;rw[QD,QD]
  cases h:XX O p.1 with
  |true=>
   simp only[Jq,Bool.false_eq_true,if_false];rw[ih,QA (k:=p.1) p.2 l e]
  |false=>
   simp only[Qcq,if_true];rw[QA (k:=p.1) p.2 _ e,ih,QA (k:=p.1) p.2 l e]
def R.congrHp {C:XC}{Y σ':St}(hf:σ'.fr=Y.fr)(O:∀o,look σ'.hp o=look Y.hp o){a:Act}{w:World}(hR:R C Y a w):R C σ' a w:=by
 obtain⟨Z,h⟩:=hR;exact⟨Z,h.os,h.tape,h.output,h.size,h.kept,h.inj,λo B hB=>by rw[O];exact h.dom o B hB,h.lt,h.new,⟨h.stay.1,λo ob B h1 h2 h3=>h.stay.2 o ob B h1 (by rw[<-O];exact h2) h3⟩,h.tmps,h.defers,λt v hv=>h.frame t v (by rw[<-hf];exact hv),λo ob hob=>h.heap o ob (by rw[<-O];exact hob)⟩
def mu1 (P:Program)(C:XC)(T:Az)(n:Nat)(md:MD)(o:Oper)(f:Operand->O_ V)(hp:Nat->O_ Ob):O_ (YI×O_ Prop):=match md with
 |.cm en M N dead ms outs r h=>match o.dst with
  |some d=>match o.op with
   |.call c=>bif Ug ⟨[],N.map λp=>(p.1,Ob.itr0)⟩ M N dead outs&&Ik (M.map Prod.fst)&&Ik (N.map Prod.fst)&&Nat.ble (d+1) n then match QxF P T f hp c en with
    |some (g,vs,ψ)=>match Vs (UO M) ms vs with
     |some us=>match Nm (UO M) hp M with
      |some hsC=>match Nm (UO N) (look outs) N with
       |some O=>match trV (UO N) r with
        |some r'=>match h with
         |[]=>X (⟨dead,O,X (d,r')⟩,X (ψ/\QX P g us hsC (Gives r outs)))|_=>match dead with|[]=>X (⟨[],O.filter (λp=>!(XX h p.1)),X (d,r')⟩,X ((ψ/\QX P g us hsC (Gives r outs))/\QuS hp O h))|_=>n_
        |none=>n_
       |none=>n_
      |none=>n_
     |none=>n_
    |none=>n_
    else n_
   |_=>n_
  |none=>n_
 |.any M=>X (M,X (∀Y:St,(∀x u,f x=X u->Y.opd x=X u)->(∀b u,hp b=X u->look Y.hp b=X u)->Qf P C o Y (M.run Y)))|.s=>match o.dst with
  |some d=>match o.op with
   |.assign x=>match f x with|some v=>bif Nat.ble (d+1) n then X (⟨[],[],X (d,v)⟩,n_)else n_|none=>n_
   |.move x=>match f x with|some v=>bif Nat.ble (d+1) n then X (⟨[],[],X (d,v)⟩,n_)else n_|none=>n_
   |_=>n_
  |none=>match o.op with
   |.store Tx x y=>match f x with
    |some (.loc b i off)=>match f y with
     |some v=>match hp b with
      |some (.var cs)=>match i with
       |0=>match look T.sz Tx with|some k=>bif v.isV&&Nat.beq v.cells.length k&&v.cells.all V.one&&Nat.ble (off+k) cs.length then X (⟨[],[(b,.var (WW cs off v.cells))],n_⟩,n_)else n_|none=>n_
       |_=>n_
      |_=>n_
     |none=>n_
    |_=>n_
   |_=>n_
 |.st r rs'=>match o.dst with
  |some _=>n_|none=>match o.op with
   |.store Tx x y=>match f x with
    |some (.loc b i off)=>match f y with
     |some v=>match hp b with
      |some (.arr z rs)=>match look T.sz Tx with|some k=>bif v.isV&&Nat.beq v.cells.length k&&v.cells.all V.one&&v.cells.all V.dat&&Nat.ble (off+k) z then X (⟨[],[(b,.arr z rs')],n_⟩,X (rs[i]? = X r/\rs.set i (WW r off v.cells)=rs'))else n_|none=>n_
      |_=>n_
     |none=>n_
    |_=>n_
   |_=>n_
 |.app rs' m=>match o.dst with
  |some d=>match o.op with
   |.call c=>match c.callee with
    |.builtin .append=>match c.args.toList with
     |[x,y]=>match c.argTypes.toList with
      |[Tx,Ty]=>match f x with
       |some (.own b k)=>match f y with
        |some v=>match hp b with
         |some (.arr z rs)=>match look T.es Tx with
          |some (e,z',by_)=>match look T.zv e with
           |some zs=>bif (look T.es Ty).isSome&&Nat.ble (d+1) n&&!(Nat.ble 621 b)&&Nat.beq z z'&&Nat.beq zs.length z&&!(Nat.beq z 0)&&Nat.ble by_ 32768 then match v with|.sl z'' us=>bif Nat.beq z z'' then X (⟨[b],[(b,.arr z rs')],X (d,.own b m)⟩,X (rs.length=k/\decide (k+us.length<=4294967296)=t_/\rs++us=rs'/\k+us.length=m))else n_|_=>n_
            else n_
           |none=>n_
          |none=>n_
         |_=>n_
        |none=>n_
       |_=>n_
      |_=>n_
     |_=>n_
    |_=>n_
   |_=>n_
  |none=>n_
def Qa2 (obj:Bool)(o:Oper)(t:Nat)(fo:Bool)(ms:L_ YI):L_ (It×Nat)->Nat->O_ DF
 |(.add x fl _,j)::r,i+1=>bif Nat.beq x.d t&&Rw o i&&(bif fo then fl else bif obj then QfL x fl (ms.drop j)else alv x fl (ms.drop j))then X x else Qa2 obj o t fo ms r i|(.tn _,_)::r,i+1=>Qa2 obj o t fo ms r i|_,_=>n_
def Qde (B:St)(fo:Bool)(ms:L_ YI)(h:L_ (It×Nat))(i:Nat)(o:Oper):Operand->O_ V
 |.tmp t=>match look B.fr t with
  |some v=>X v|none=>match Qa2 f_ o t fo ms h i with|some x=>X x.v|none=>n_
 |x=>B.opd x
def Qho (B:St)(fo:Bool)(ms:L_ YI)(h:L_ (It×Nat))(i:Nat)(o:Oper)(b:Nat):O_ Ob:=match look B.hp b with
 |some ob=>X ob|none=>match Qa2 t_ o b fo ms h i with|some x=>x.ob|none=>n_
structure Dr where
 ri:List (It×Nat)
 ms:List YI
 B:St
 Z:Prop
def AX (P:Program)(C:XC)(T:Az)(n:Nat)(ops:Array Oper)(S:St):L_ Dw->L_ Oper->Nat->L_ (It×Nat)->L_ YI->St->Prop->O_ Dr
 |[],_,_,O,ms,B,Z=>X ⟨O,ms,B,Z⟩|.a h sv fl nf::ds,o::l,i,O,ms,B,Z=>match BA ops o (λt=>Qde (bif fl&&!nf then S else B) (fl&&!nf) ms O i o (.tmp t))with
  |some true=>match o.dst with
   |some d=>bif Nat.ble (d+1) n then match ev1 P C T h o d (Qde (bif fl&&!nf then S else B) (fl&&!nf) ms O i o) (Qho (bif fl&&!nf then S else B) (fl&&!nf) ms O i o)with
    |some ⟨v,ob,q⟩=>match sv with|none=>AX P C T n ops S ds l (i+1) ((.add ⟨d,v,ob⟩ fl nf,ms.length)::O) ms B (Qdb Z q)|some (mm,u)=>AX P C T n ops S ds l (i+1) ((.add ⟨d,u,ob⟩ fl nf,ms.length)::O) ms B (Qdb Z q/\v.denil mm=u)
    |none=>n_
    else n_
   |none=>n_
  |some false=>match o.dst with|some d=>bif Nat.ble (d+1) n then AX P C T n ops S ds l (i+1) ((.add ⟨d,.lit undef,n_⟩ fl nf,ms.length)::O) ms B Z else n_|none=>n_
  |none=>n_
 |.m md::ds,o::l,i,O,ms,B,Z=>match BA ops o (λt=>Qde B f_ ms O i o (.tmp t))with
  |some true=>match mu1 P C T n md o (Qde B f_ ms O i o) (Qho B f_ ms O i o)with|some (M,q)=>AX P C T n ops S ds l (i+1) ((.tn M,ms.length)::O) (ms++[M]) (M.run B) (Qdb Z q)|none=>n_
  |_=>n_
 |_::_,[],_,_,_,_,_=>n_
def Jj (h:L_ (It×Nat)):L_ It:=(h.map Prod.fst).reverse
section
variable {P:Program}{C:XC}{T:Az}{Q:Exit->St->Prop}{n:Nat}{ops:Array Oper}{base S:St}{ks:L_ Fr}
def QqX {md:MD}{o:Oper}{f:Operand->O_ V}{hp:Nat->O_ Ob}{M:YI}{q:O_ Prop}{Y:St}(ok:Ek P T)(hN:Ki P C n)(e:mu1 P C T n md o f hp=X (M,q))(hq:match q with|none=>True|some p=>p)
  (h1:∀x u,f x=X u->Y.opd x=X u) (h2:∀b u,hp b=X u->look Y.hp b=X u):Qf P C o Y (M.run Y):=by
 have hn:=hN.n;have hpg:=hN.g;unfold mu1 at e;cases md with
 |any M0=>cases e;exact hq Y h1 h2
 |cm en M0 N dead ms outs r same=>
  dsimp only at e;split at e
  ·rename_i d hd;split at e
   ·rename_i c ho;replace e:=Yn e;obtain⟨O,e⟩:=e;simp only[QN]at O;obtain⟨⟨⟨g1,g2⟩,g3⟩,g4⟩:=O;rw[<-hn]at g4;have g1:=QuR (Y:=Y) g1;have g2:=ED.1 g2;have g3:=ED.1 g3;have inj:OG M0=t_/\OG N=t_:=by
     simp only[Ug,QN]at g1;exact⟨g1.1.1.1,g1.1.1.2⟩
    have mM:∀a b,UO M0 a=X b->look M0 b=X a:=λa b h=>Dc inj.1 (MZ h) g2;have mN:∀a b,UO N a=X b->look N b=X a:=λa b h=>Dc inj.2 (MZ h) g3;split at e
    ·rename_i g vs ψ hent;split at e
     ·rename_i us hus;split at e
      ·rename_i hsC hC;split at e
       ·rename_i hsN hN;split at e
        ·rename_i r' hr;have call:ψ/\QX P g us hsC (Gives r outs)->Qf P C o Y ((Y.after dead hsN).put d r'):=λhq=>
          Qf.callM (g:=f_) (QuQ (C:=C) ok ho hent hq.1 h1 h2) hd g4 hpg g1 g2 (Se mM hus) (UR mM (Qv4 h2 hC)) hq.2 (UR mN hN) (TW mN hr)
         split at e
         ·cases e;unfold YI.run;dsimp only;rw[Qhn];exact call hq
         split at e
         ·cases e;obtain⟨hq1,hq2⟩:=hq;intro a w hR K Q hK;refine call hq1 a w hR K Q λa' w' hR'=>hK a' w' (R.congrHp ?_ (λo=>?_) hR')
          ·unfold YI.run;dsimp only;rw[Qhn];rfl
          unfold YI.run;dsimp only;rw[Qhn];show look (_++Y.hp) o=look (_++Y.hp) o;rw[BS,BS,QtK];by_cases hm:XX same o=t_
          ·rw[if_pos hm];have:=Qv5 hq2 o hm;cases hl:look hsN o with|none=>rfl|some ob=>rw[hl]at this;exact h2 o ob this
          rw[if_neg hm]
         cases e
        cases e
       cases e
      cases e
     cases e
    cases e
   cases e
  cases e
 |s=>
  dsimp only at e;split at e
  ·rename_i d hd;split at e
   ·rename_i x ho;split at e
    ·rename_i v hv;replace e:=Yn e;obtain⟨O,e⟩:=e;rw[<-hn]at O;cases e;exact Qf.assign ho hd O (h1 _ _ hv)
    cases e
   ·rename_i x ho;split at e
    ·rename_i v hv;replace e:=Yn e;obtain⟨O,e⟩:=e;rw[<-hn]at O;cases e;exact Qf.move ho hd O (h1 _ _ hv)
    cases e
   cases e
  rename_i hd;split at e
  ·rename_i Tx x y ho;split at e
   ·rename_i b i off hx;split at e
    ·rename_i v hv;split at e
     ·rename_i cs hb;split at e
      ·split at e
       ·rename_i k hk;replace e:=Yn e;obtain⟨e2,e⟩:=e;cases e;simp only[QN]at e2;obtain⟨⟨⟨a1,a2⟩,a3⟩,a4⟩:=e2;exact Qf.storeL ho hd (h1 _ _ hx) (h2 _ _ hb) (h1 _ _ hv) (V.isV_or a1) (ok.sz hk) (Yp a2) a3 a4 rfl
       cases e
      cases e
     cases e
    cases e
   cases e
  cases e
 |st r rs'=>
  dsimp only at e;split at e
  ·cases e
  rename_i hd;split at e
  ·rename_i Tx x y ho;split at e
   ·rename_i b i off hx;split at e
    ·rename_i v hv;split at e
     ·rename_i z rs hb;split at e
      ·rename_i k hk;replace e:=Yn e;obtain⟨e2,e⟩:=e;cases e;simp only[QN]at e2;obtain⟨⟨⟨⟨a1,a2⟩,a3⟩,a4⟩,a5⟩:=e2;exact Qf.storeA ho hd (h1 _ _ hx) (h2 _ _ hb) hq.1 (h1 _ _ hv) (V.isV_or a1) (ok.sz hk) (Yp a2) a3 a4 a5 hq.2
      cases e
     cases e
    cases e
   cases e
  cases e
 |app rs' m=>
  dsimp only at e;split at e
  ·rename_i d hd;split at e
   ·rename_i c ho;obtain⟨ce,ags,ts⟩:=c;split at e
    ·rename_i hce;dsimp only at hce e;subst hce;split at e
     ·rename_i x y hxy;split at e
      ·rename_i Tx Ty hT;split at e
       ·rename_i b k hx;split at e
        ·rename_i v hv;split at e
         ·rename_i z rs hb;split at e
          ·rename_i et z' by_ hes;split at e
           ·rename_i zs hz;replace e:=Yn e;obtain⟨O,e⟩:=e;simp only[QN,Ga]at O;obtain⟨⟨⟨⟨⟨⟨a1,a2⟩,a3⟩,a4⟩,a5⟩,a6⟩,a7⟩:=O;have a4:=Yp a4;subst a4;have a5:=Yp a5;have a6:z≠0:=λh0=>by rw[h0]at a6;cases a6
            rw[<-hn]at a2;obtain⟨⟨e2,z2,by2⟩,hU⟩:∃q,YD P Ty=X q:=by
             cases hl:look T.es Ty with
             |none=>rw[hl]at a1;cases a1
             |some q=>exact⟨q,ok.es hl⟩
            have ea:ags=#[x,y]:=by rw[<-QeB (xs:=ags),hxy]
            have et:ts=#[Tx,Ty]:=by rw[<-QeB (xs:=ts),hT]
            subst ea;subst et;split at e
            ·rename_i z'' us;replace e:=Yn e;obtain⟨e3,e⟩:=e;have:=Yp e3;subst this;cases e;obtain⟨h4,h5,h6,h7⟩:=hq;exact Qf.appS ho hd a2 (h1 _ _ hx) (h2 _ _ hb) a3 h4 (ok.es hes) hU (ok.zv hz) a5 a6 a7 h5 (h1 _ _ hv) h6 h7
            cases e
           cases e
          cases e
         cases e
        cases e
       cases e
      cases e
     cases e
    cases e
   cases e
  cases e
def Qi2 {obj:Bool}{o:Oper}{t:Nat}{fo:Bool}{ms:L_ YI}:∀{O:L_ (It×Nat)} {i:Nat} {x:DF},i=O.length->Qa2 obj o t fo ms O i=X x->
  ∃k fl nf j,O.reverse[k]? = X (.add x fl nf,j)/\Rw o k=t_/\x.d=t/\(bif fo then fl else bif obj then QfL x fl (ms.drop j)else alv x fl (ms.drop j))=t_:=by
 intro O
 induction O with
 |nil=>intro i x hi h;subst hi;cases h
 |cons y O ih=>
  intro i x hi h;subst hi;have up:∀{x:DF},(∃k fl nf j,O.reverse[k]? = X (.add x fl nf,j)/\Rw o k=t_/\x.d=t/\(bif fo then fl else bif obj then QfL x fl (ms.drop j)else alv x fl (ms.drop j))=t_)->∃k fl nf j,(y::O).reverse[k]? = X (.add x fl nf,j)/\Rw o k=t_/\x.d=t/\(bif fo then fl else bif obj then QfL x fl (ms.drop j)else alv x fl (ms.drop j))=t_:=by
   rintro x ⟨k,fl,nf,j,h1,h2⟩;refine⟨k,fl,nf,j,?_,h2⟩;rw[List.reverse_cons,Jh (Xf.1 h1).1];exact h1
  obtain⟨it,j⟩:=y;cases it with
  |tn M=>rw[WI,Qa2]at h;exact up (ih rfl h)|add z fl nf=>
   rw[WI,Qa2]at h;cases hb:(Nat.beq z.d t&&Rw o O.length&&(bif fo then fl else bif obj then QfL z fl (ms.drop j)else alv z fl (ms.drop j)))with
   |true=>
    rw[hb]at h;cases h;simp only[QN]at hb;exact⟨O.length,fl,nf,j,by simp,hb.1.2,Yp hb.1.1,hb.2⟩
   |false=>rw[hb]at h;exact up (ih rfl h)
def Qhp {o:Oper}{f:Nat->O_ V}{Y:St}{b:Bool}(h:BA ops o f=X b)(hx:∀t u,f t=X u->look Y.fr t=X u):BA ops o (look Y.fr)=X b:=by
 unfold BA at h ⊢;cases hg:o.guard with
 |none=>simp only[hg]at h ⊢;exact h|some p=>
  obtain⟨j,t⟩:=p;simp only[hg]at h ⊢;cases hj:ops[j]? with
  |none=>simp only[hj]at h;cases h
  |some oj=>
   simp only[hj]at h ⊢;cases hd:oj.dst with
   |none=>simp only[hd]at h;cases h
   |some d=>
    simp only[hd]at h ⊢;cases O:f d with
    |none=>simp only[O]at h;cases h
    |some v=>
     have:=hx d v O;simp only[O]at h;simp only[this];exact h
def KJ.want {o:Oper}{Y σ':St}(h:BA ops o (look Y.fr)=X t_)(hs:Qf P C o Y σ'):KJ P C ops o Y σ':=by
 rcases Qbl h with⟨hg,_⟩|⟨j,t,d',hg,hj,⟨u,hu,O⟩|⟨_,O⟩⟩
 ·exact KJ.run hg hs
 ·exact KJ.runG hg hj hu (by simpa using O.symm) hs
 cases O
def KJ.unwant {o:Oper}{Y:St}{d:Nat}(h:BA ops o (look Y.fr)=X f_)(hd:o.dst=X d)(hn:B_ d C):KJ P C ops o Y (Y.put d (.lit undef)):=by
 rcases Qbl h with⟨_,O⟩|⟨j,t,d',hg,hj,⟨u,hu,O⟩|⟨hu,_⟩⟩
 ·cases O
 ·have:u=!t:=by cases u<;>cases t<;>first|rfl|cases O
  exact KJ.pass hg hj hu this hd hn
 exact KJ.passU hg hj hu hd hn
def QpR (ok:Ek P T)(hN:Ki P C n){D:Dr}:∀(ds:L_ Dw) {l:L_ Oper} {i:Nat} {ri:L_ (It×Nat)} {ms:L_ YI} {B:St} {Z:Prop},AX P C T n ops S ds l i ri ms B Z=X D->i=ri.length->l=ops.toList.drop i->ms=XA (Jj ri)->B=Vt base ms->
  (∀k it j,ri.reverse[k]? = X (it,j)->j=j0 (Jj ri) k)->D.Z->
  Z/\D.ri.length=i+ds.length/\(∃r,Jj D.ri=Jj ri++r)/\D.ms=XA (Jj D.ri)/\D.B=Vt base D.ms/\(∀k it j,D.ri.reverse[k]? = X (it,j)->j=j0 (Jj D.ri) k)/\
   ∀k o it,i<=k->ops[k]? = X o->(Jj D.ri)[k]? = X it->Qgm P C ops base S (Jj D.ri) k o it:=by
 have hn:=hN.n;intro ds
 induction ds with
 |nil=>
  intro l i ri ms B Z h hi hl hms hB hj hφ;cases h;refine⟨hφ,by simp[hi],⟨[],by simp⟩,hms,hB,hj,λk o it hk ho hit=>?_⟩;have:=(Xf.1 hit).1;simp[Jj]at this;omega
 |cons d ds ih=>
  intro l i ri ms B Z h hi hl hms hB hj hφ;cases l with
  |nil=>cases d<;>cases h
  |cons o l=>
   have ho:ops[i]? = X o:=by
    have:=congrArg (λx=>x[0]?) hl;simpa using this.symm
   have hl':l=ops.toList.drop (i+1):=by
    have:=congrArg List.tail hl;simpa using this
   have hlen:(Jj ri).length=i:=by simp[Jj,hi]
   have grow:∀(it:It) (φ0:Prop) (ms':L_ YI) (B':St),ms'=XA (Jj ri++[it])->B'=Vt base ms'->AX P C T n ops S ds l (i+1) ((it,ms.length)::ri) ms' B' φ0=X D->
     (φ0->Z/\∀its:L_ It,(∃r,its=Jj ri++(it::r))->Qgm P C ops base S its i o it)->
     Z/\D.ri.length=i+(ds.length+1)/\(∃r,Jj D.ri=Jj ri++r)/\D.ms=XA (Jj D.ri)/\D.B=Vt base D.ms/\(∀k it j,D.ri.reverse[k]? = X (it,j)->j=j0 (Jj D.ri) k)/\
      ∀k o it,i<=k->ops[k]? = X o->(Jj D.ri)[k]? = X it->Qgm P C ops base S (Jj D.ri) k o it:=by
    intro it φ0 ms' B' hms' hB' h hstep;have hio:Jj ((it,ms.length)::ri)=Jj ri++[it]:=by simp[Jj]
    obtain⟨h1,h2,⟨r,h3⟩,h4,h5,h6,h7⟩:=ih h (by simp[hi]) hl' (by rw[hio];exact hms') hB' (λk it' j hk=>by
     rw[hio];rw[List.reverse_cons]at hk;by_cases hlt:k<ri.length
     ·rw[Jh (by simpa using hlt)]at hk;rw[hj k it' j hk];unfold j0;rw[Qgh (by omega)]
     rw[Kc (by simp;omega)]at hk;have:k-ri.reverse.length=0:=by
      have:=(Xf.1 hk).1;simpa using this
     rw[this]at hk;simp at hk;obtain⟨rfl,rfl⟩:=hk;have hk2:k=ri.length:=by simp at this;omega
     unfold j0;rw[Qgh (by omega),hms,YV (by omega)]) hφ
    obtain⟨h8,h9⟩:=hstep h1;rw[hio,Kh]at h3;refine⟨h8,by omega,⟨_,h3⟩,h4,h5,h6,λk o' it' hk ho' hit=>?_⟩;rcases DP i k with hlt|hge
    ·exact h7 k o' it' hlt ho' hit
    have:k=i:=by omega
    subst this;rw[ho]at ho';cases ho';have:(Jj D.ri)[k]? = X it:=by rw[h3,Kc (by omega),hlen];simp
    rw[this]at hit;cases hit;exact h9 _ ⟨r,h3⟩
   have place:∀{its:L_ It} {it:It} {r:L_ It},its=Jj ri++(it::r)->(XA its).take (j0 its i)=ms/\∀k it' j,ri.reverse[k]? = X (it',j)->its[k]? = X it'/\j=j0 its k:=by
    intro its it r O;have h1:its.take i=Jj ri:=by rw[O,Qgh (by omega),YV (by omega)]
    refine⟨?_,λk it' j hk=>⟨?_,?_⟩⟩
    ·unfold j0;rw[h1,O,Fx,<-hms];simp
    ·have hk2:(Jj ri)[k]? = X it':=by simp only[Jj,<-List.map_reverse,Yj,hk,Gq]
     rw[O,Jh (Xf.1 hk2).1];exact hk2
    have hkl:=(Xf.1 hk).1;rw[hj k it' j hk];unfold j0;rw[O,Qgh (by simp at hkl;omega)]
   have envB:∀{its:L_ It} {it:It} {r:L_ It} {Y:St},its=Jj ri++(it::r)->UZ Y B->(∀k y fl nf,its[k]? = X (.add y fl nf)->Rw o k=t_->Vu Y y fl (ms.drop (j0 its k)))->
     (∀x u,Qde B f_ ms ri i o x=X u->Y.opd x=X u)/\∀b u,Qho B f_ ms ri i o b=X u->look Y.hp b=X u:=by
    intro its it r Y O hsub hdep;have dep:∀{t:Nat} {x:DF},Qa2 f_ o t f_ ms ri i=X x->look Y.fr x.d=X x.v/\x.d=t:=λhf=>by
     obtain⟨k,fl,nf,j,g1,g2,g3,g4⟩:=Qi2 hi hf;obtain⟨g5,g6⟩:=(place O).2 k _ j g1;exact⟨(hdep k _ fl nf g5 g2).1 (by rw[<-g6];exact g4),g3⟩
    have depO:∀{t:Nat} {x:DF},Qa2 t_ o t f_ ms ri i=X x->(∀ob,x.ob=X ob->look Y.hp x.d=X ob)/\x.d=t:=λhf=>by
     obtain⟨k,fl,nf,j,g1,g2,g3,g4⟩:=Qi2 hi hf;obtain⟨g5,g6⟩:=(place O).2 k _ j g1;exact⟨(hdep k _ fl nf g5 g2).2 (by rw[<-g6];exact g4),g3⟩
    refine⟨λx u hx=>?_,λb u hx=>?_⟩
    ·cases x with
     |tmp t=>
      simp only[Qde]at hx;split at hx
      ·rename_i v hv;cases hx;exact hsub.1 _ _ hv
      split at hx
      ·rename_i y hy;cases hx;obtain⟨g1,g2⟩:=dep hy;subst g2;exact g1
      cases hx
     |const v=>exact hx|global g=>exact hx|func f=>exact hx
    simp only[Qho]at hx;split at hx
    ·rename_i v hv;cases hx;exact hsub.2 _ _ hv
    split at hx
    ·rename_i y hy;obtain⟨g1,g2⟩:=depO hy;subst g2;exact g1 _ hx
    cases hx
   have envS:∀{its:L_ It} {it:It} {r:L_ It} {Y:St},its=Jj ri++(it::r)->UZ Y S->(∀k y nf,its[k]? = X (.add y t_ nf)->Rw o k=t_->Qhb Y y)->
     (∀x u,Qde S t_ ms ri i o x=X u->Y.opd x=X u)/\∀b u,Qho S t_ ms ri i o b=X u->look Y.hp b=X u:=by
    intro its it r Y O hsub hdep;have dep:∀{b:Bool} {t:Nat} {x:DF},Qa2 b o t t_ ms ri i=X x->Qhb Y x/\x.d=t:=λhf=>by
     obtain⟨k,fl,nf,j,g1,g2,g3,g4⟩:=Qi2 hi hf;obtain⟨g5,g6⟩:=(place O).2 k _ j g1;have:fl=t_:=g4;subst this;exact⟨hdep k _ nf g5 g2,g3⟩
    refine⟨λx u hx=>?_,λb u hx=>?_⟩
    ·cases x with
     |tmp t=>
      simp only[Qde]at hx;split at hx
      ·rename_i v hv;cases hx;exact hsub.1 _ _ hv
      split at hx
      ·rename_i y hy;cases hx;obtain⟨g1,g2⟩:=dep hy;subst g2;exact g1.1
      cases hx
     |const v=>exact hx|global g=>exact hx|func f=>exact hx
    simp only[Qho]at hx;split at hx
    ·rename_i v hv;cases hx;exact hsub.2 _ _ hv
    split at hx
    ·rename_i y hy;obtain⟨g1,g2⟩:=dep hy;subst g2;exact g1.2 _ hx
    cases hx
   have addOK:∀{x:DF} {fl nf:Bool} {φ0:Prop},AX P C T n ops S ds l (i+1) ((.add x fl nf,ms.length)::ri) ms B φ0=X D->
     (φ0->Z/\∀Y,(∀y u,Qde (bif fl&&!nf then S else B) (fl&&!nf) ms ri i o y=X u->Y.opd y=X u)->(∀b u,Qho (bif fl&&!nf then S else B) (fl&&!nf) ms ri i o b=X u->look Y.hp b=X u)->(x.ob.isSome=t_->look Y.hp x.d=n_)->KJ P C ops o Y (Y.addF x))->
     Z/\D.ri.length=i+(ds.length+1)/\(∃r,Jj D.ri=Jj ri++r)/\D.ms=XA (Jj D.ri)/\D.B=Vt base D.ms/\(∀k it j,D.ri.reverse[k]? = X (it,j)->j=j0 (Jj D.ri) k)/\
      ∀k o it,i<=k->ops[k]? = X o->(Jj D.ri)[k]? = X it->Qgm P C ops base S (Jj D.ri) k o it:=by
    intro x fl nf φ0 h hs;refine grow (.add x fl nf) φ0 ms B (by rw[Fx];simp[XA,hms]) hB h λh0=>?_;obtain⟨g1,g2⟩:=hs h0;refine⟨g1,λits ⟨r,O⟩=>?_⟩;dsimp only[Qgm];generalize (fl&&!nf)=ff at g2 ⊢;cases ff with
    |true=>exact λY hsub hdep hf=>let ⟨a,b⟩:=envS O hsub hdep;g2 Y a b hf|false=>
     intro Y hsub hdep hf;rw[(place O).1,<-hB]at hsub;rw[(place O).1]at hdep;obtain⟨a,b⟩:=envB O hsub hdep;exact g2 Y a b hf
   cases d with
   |a h0 sv fl nf=>
    rw[AX]at h;split at h
    ·rename_i hw;split at h
     ·rename_i dd hd;replace h:=Yn h;obtain⟨e1,h⟩:=h;rw[<-hn]at e1;have stp:∀{v:V} {ob:O_ Ob} {q:O_ Prop} {Y:St},ev1 P C T h0 o dd (Qde (bif fl&&!nf then S else B) (fl&&!nf) ms ri i o) (Qho (bif fl&&!nf then S else B) (fl&&!nf) ms ri i o)=X ⟨v,ob,q⟩->Rs.holds ⟨v,ob,q⟩->
        (∀x u,Qde (bif fl&&!nf then S else B) (fl&&!nf) ms ri i o x=X u->Y.opd x=X u)->(∀b u,Qho (bif fl&&!nf then S else B) (fl&&!nf) ms ri i o b=X u->look Y.hp b=X u)->(ob.isSome=t_->look Y.hp dd=n_)->KJ P C ops o Y (Y.addF ⟨dd,v,ob⟩):=
       λhe hq hx hh hf=>KJ.want (Qhp hw λt u ht=>hx (.tmp t) u ht) (QiY ok hd e1 hN.g hx hh he hq hf)
      split at h
      ·rename_i v ob q he;split at h
       ·exact addOK h λh1=>let ⟨a,b⟩:=Qdc h1;⟨a,λY hx hh hf=>stp he b hx hh hf⟩
       refine addOK h λh1=>?_;obtain⟨h1,h2⟩:=h1;subst h2;obtain⟨a,b⟩:=Qdc h1;exact⟨a,λY hx hh hf=>(stp he b hx hh hf).denil⟩
      cases h
     cases h
    ·rename_i hw;split at h
     ·rename_i dd hd;replace h:=Yn h;obtain⟨e1,h⟩:=h;rw[<-hn]at e1;exact addOK h λh1=>⟨h1,λY hx hh hf=>KJ.unwant (Qhp hw λt u ht=>hx (.tmp t) u ht) hd e1⟩
     cases h
    cases h
   |m md=>
    rw[AX]at h;split at h
    ·rename_i hw;split at h
     ·rename_i M q he;refine grow (.tn M) (Qdb Z q) (ms++[M]) (M.run B) (by rw[Fx];simp[XA,hms]) (by rw[QnQ,<-hB];rfl) h λh1=>?_;obtain⟨a,b⟩:=Qdc (v:=.J) (ob:=n_) h1;refine⟨a,λits ⟨r,O⟩ Y hsub hdep=>?_⟩;rw[(place O).1,<-hB]at hsub;rw[(place O).1]at hdep;obtain⟨hx,hh⟩:=envB O hsub hdep;refine KJ.want (Qhp hw λt u ht=>hx (.tmp t) u ht) (QqX ok hN he ?_ hx hh);cases q with|none=>trivial|some p=>exact b
     cases h
    cases h
def OK (ms:L_ YI):L_ (It×Nat)->S_
 |[]=>[]|(.add x fl _,j)::r=>bif alv x fl (ms.drop j)then(x.d,x.v)::OK ms r else OK ms r|(.tn _,_)::r=>OK ms r
def MG (ms:L_ YI):L_ (It×Nat)->H_
 |[]=>[]|(.add x fl _,j)::r=>bif QfL x fl (ms.drop j)then(match x.ob with|some ob=>(x.d,ob)::MG ms r|none=>MG ms r)else MG ms r
 |(.tn _,_)::r=>MG ms r
def okV (ops:Array Oper)(base S:St)(D:Dr):Bool:=QpJ ops&&QxB ops (Jj D.ri)&&QsE base (Jj D.ri)&&QpP ops D.ms (Jj D.ri)&&QpQ ops (Jj D.ri) D.ms S&&QuM ops (Jj D.ri)
def Tf {α:Type}{l:L_ (Nat×α)}:∀{O:L_ Nat} {r:L_ (Nat×α)},XI l O=X r->∀p∈r,look l p.1=X p.2:=by
 intro O
 induction O with
 |nil=>intro r h p hp;cases h;cases hp
 |cons t O ih=>
  intro r h p hp;rw[XI]at h;split at h
  ·rename_i v hv;split at h
   ·rename_i r' hr;cases h;rcases XP.1 hp with rfl|hp
    ·exact hv
    exact ih hr p hp
   cases h
  cases h
def QsG {fr:S_}:∀{l:S_},(∀p∈l,look fr p.1=X p.2)->Ps fr l:=by
 intro l
 induction l with|nil=>intro _;trivial|cons p l ih=>intro h;exact⟨h p Yc,ih λq O=>h q (Ys _ O)⟩
def QlI {fr:H_}:∀{l:H_},(∀p∈l,look fr p.1=X p.2)->LB fr l:=by
 intro l
 induction l with|nil=>intro _;trivial|cons p l ih=>intro h;exact⟨h p Yc,ih λq O=>h q (Ys _ O)⟩
def AK.draw2 {id:Nat}(ok:Ek P T)(hN:Ki P C n)(hmix:P.follows .mixedOrders=t_)(ds:L_ Dw)(sts sos ts os:L_ Nat){sf:S_}{sh:H_}{fr:S_}{hp:H_}{O:L_ (It×Nat)}{ms:L_ YI}{B:St}{Z:Prop}
  (hS1:XI base.fr sts=X sf) (hS2:XI base.hp sos=X sh)
  (e:AX P C T n ops ⟨sf,sh⟩ ds ops.toList 0 [] [] base True=X ⟨O,ms,B,Z⟩) (hφ:Z) (hl:ds.length=ops.size) (hk:okV ops base ⟨sf,sh⟩ ⟨O,ms,B,Z⟩=t_)
  (hf1:XI (OK ms O++B.fr) ts=X fr) (hf2:XI (MG ms O++B.hp) os=X hp) (hc:St.closed ⟨fr,hp⟩=t_) (k:AK P C Q (.x .normal) ks ⟨fr,hp⟩):AK P C Q (.c (.region id ops t_)) ks base:=by
 have hn:=hN.n;obtain⟨D,hD⟩:∃D:Dr,D=⟨O,ms,B,Z⟩:=⟨_,rfl⟩;rw[<-hD]at e hk;have hφ:D.Z:=by rw[hD];exact hφ
 have hf1:XI (OK D.ms D.ri++D.B.fr) ts=X fr:=by rw[hD];exact hf1
 have hf2:XI (MG D.ms D.ri++D.B.hp) os=X hp:=by rw[hD];exact hf2
 clear hD;simp only[okV,QN]at hk;obtain⟨⟨⟨⟨⟨k1,k2⟩,k3⟩,k4⟩,k5⟩,k6⟩:=hk;obtain⟨_,h2,_,h4,h5,h6,h7⟩:=QpR (base:=base) ok hN ds e rfl rfl rfl rfl (λk it j h=>by simp at h) hφ;have hlen:(Jj D.ri).length=ops.size:=by simp[Jj];omega
 rw[h4]at k4 k5;have hS:UZ base ⟨sf,sh⟩:=⟨λt v h=>by
  have:=Tf hS1 (t,v) (JX h);exact this,λp ob h=>by have:=Tf hS2 (p,ob) (JX h);exact this⟩
 refine AK.drawV hmix hlen k1 k2 k3 k6 k4 k5 hS (λi o it ho hit=>h7 i o it (Ii _) ho hit) λY hsub hadd=>?_;rw[<-h4,<-h5]at hsub;have hadd':∀x fl nf j,(It.add x fl nf,j)∈D.ri->Vu Y x fl (D.ms.drop j):=by
  intro x fl nf j hm;obtain⟨i,hi⟩:=List.getElem?_of_mem (List.mem_reverse.2 hm);have hj:=h6 i _ j hi;rw[hj,h4];refine hadd i x fl nf ?_;simp only[Jj,<-List.map_reverse,Yj,hi,Gq]
 have frOK:∀{O:L_ (It×Nat)},(∀q∈O,q∈D.ri)->∀{t:Nat} {v:V},look (OK D.ms O) t=X v->look Y.fr t=X v:=by
  intro O
  induction O with
  |nil=>intro _ t v h;cases h
  |cons y O ih=>
   intro hm t v h;have hm':=λq hq=>hm q (Ys _ hq);obtain⟨it,j⟩:=y;cases it with
   |tn M=>exact ih hm' h|add x fl nf=>
    rw[OK]at h;cases hal:alv x fl (D.ms.drop j)with
    |false=>rw[hal]at h;exact ih hm' h|true=>
     rw[hal]at h;have h:look ((x.d,x.v)::OK D.ms O) t=X v:=h;by_cases e:x.d=t
     ·subst e;rw[QD]at h;cases h;exact(hadd' x fl nf j (hm _ Yc)).1 hal
     rw[QA _ _ e]at h;exact ih hm' h
 have hpOK:∀{O:L_ (It×Nat)},(∀q∈O,q∈D.ri)->∀{t:Nat} {v:Ob},look (MG D.ms O) t=X v->look Y.hp t=X v:=by
  intro O
  induction O with
  |nil=>intro _ t v h;cases h
  |cons y O ih=>
   intro hm t v h;have hm':=λq hq=>hm q (Ys _ hq);obtain⟨it,j⟩:=y;cases it with
   |tn M=>exact ih hm' h|add x fl nf=>
    rw[MG]at h;cases hal:QfL x fl (D.ms.drop j)with
    |false=>rw[hal]at h;exact ih hm' h|true=>
     rw[hal]at h;cases hob:x.ob with
     |none=>rw[hob]at h;exact ih hm' h|some ob=>
      rw[hob]at h;have h:look ((x.d,ob)::MG D.ms O) t=X v:=h;by_cases e:x.d=t
      ·subst e;rw[QD]at h;cases h;exact(hadd' x fl nf j (hm _ Yc)).2 hal _ hob
      rw[QA _ _ e]at h;exact ih hm' h
 refine AK.weaken (λa w hR=>hR.to (QsG λp hp'=>?_) (QlI λp hp'=>?_) hc) k
 ·have:=Tf hf1 p hp';rw[BS]at this;cases hl:look (OK D.ms D.ri) p.1 with
  |some v=>rw[hl]at this;cases this;exact frOK (λ_ h=>h) hl
  |none=>rw[hl]at this;exact hsub.1 _ _ this
 have:=Tf hf2 p hp';rw[BS]at this;cases hl:look (MG D.ms D.ri) p.1 with
 |some v=>rw[hl]at this;cases this;exact hpOK (λ_ h=>h) hl
 |none=>rw[hl]at this;exact hsub.2 _ _ this
end
def Qf.callSame {P:Program}{C:XC}{T:Az}{n:Nat}{o:Oper}{md:MD}{f:Operand->O_ V}{hp:Nat->O_ Ob}{Y:St}{d:Nat}{v:V}{q:Prop}(ok:Ek P T)(hN:Ki P C n)(h:∀x u,f x=X u->Y.opd x=X u)(O:∀b u,hp b=X u->look Y.hp b=X u)
  (e:mu1 P C T n md o f hp=X (⟨[],[],X (d,v)⟩,X q)) (hq:q):Qf P C o Y (Y.addF ⟨d,v,n_⟩):=QqX (q:=X q) ok hN e hq h O
def SD {α:Type}{f:α->L_ V}{l:L_ α}{k h:Nat}:((l.map f).drop k).take (h-k)=((l.drop k).take (h-k)).map f:=by simp
def dropL {α:Type}{l:L_ α}{k:Nat}:l.length-k=(l.drop k).length:=NF.symm
section
variable {P:Program}{C:XC}{Y:St}{o:Oper}
def Qi3 (P:Program)(T:TypeId)(k:IntKind):Bool:=match P.underlying T with|some (.int q)=>ikB q k|_=>f_
def Qhq {T:TypeId}{k:IntKind}(h:Qi3 P T k=t_):P.underlying T=X (.int k):=by
 unfold Qi3 at h;split at h
 ·rename_i q O;rw[O,Qsq h]
 cases h
def Qf.convI {S T d:Nat}{x:Operand}{k h:IntKind}{n:Int}(ho:o.op=.convert S T x)(hd:o.dst=X d)(hn:B_ d C)(hx:Y.opd x=X (.i h n))(hs:Qi3 P S h=t_)(O:Qi3 P T k=t_):Qf P C o Y (Y.put d (.i k (k.wrap n))):=by
 refine Qf.same hd hn λZ a w hr=>⟨.int k (k.wrap n),?_,.dat (.i _ _)⟩;simp[execOp,ho,(hr.opd hx).i_inv,convert,run_underlying (Qhq hs),run_underlying (Qhq O),Conv.intToInt]
def QuT (k:IntKind)(m n:Int):Int:=k.wrap (m*2 ^ (min n.toNat k.bits))
def Wd (k:IntKind)(m n:Int):Int:=m.fdiv (2 ^ (min n.toNat k.bits))
def Qf.shl {x y:Operand}{T U d:Nat}{k k':IntKind}{m n:Int}(ho:o.op=.binOp .shl T x y U)(O:o.dst=X d)(hn:B_ d C)(hx:Y.opd x=X (.i k m))(hy:Y.opd y=X (.i k' n))(h0:0<=n):Qf P C o Y (Y.put d (.i k (QuT k m n))):=by
 refine Qf.same O hn λZ a w h=>⟨.int k _,?_,.dat (.i _ _)⟩;have:¬n<0:=by omega
 simp[execOp,ho,(h.opd hx).i_inv,(h.opd hy).i_inv,eqGuard,binOp,Op.shift,this,QuT]
def Qf.shr {x y:Operand}{T U d:Nat}{k k':IntKind}{m n:Int}(ho:o.op=.binOp .shr T x y U)(O:o.dst=X d)(hn:B_ d C)(hx:Y.opd x=X (.i k m))(hy:Y.opd y=X (.i k' n))(h0:0<=n):Qf P C o Y (Y.put d (.i k (Wd k m n))):=by
 refine Qf.same O hn λZ a w h=>⟨.int k _,?_,.dat (.i _ _)⟩;have:¬n<0:=by omega
 simp[execOp,ho,(h.opd hx).i_inv,(h.opd hy).i_inv,eqGuard,binOp,Op.shift,this,Wd]
def Eo (k:IntKind)(m n:Int):Int:=k.wrap ((BitVec.ofInt k.bits m &&& BitVec.ofInt k.bits n).toNat:Int)
def Qf.andB {x y:Operand}{T U d:Nat}{k:IntKind}{m n:Int}(ho:o.op=.binOp .and T x y U)(O:o.dst=X d)(hn:B_ d C)(hx:Y.opd x=X (.i k m))(hy:Y.opd y=X (.i k n)):Qf P C o Y (Y.put d (.i k (Eo k m n))):=
 Qf.same O hn λZ a w h=>⟨.int k _,by simp[execOp,ho,(h.opd hx).i_inv,(h.opd hy).i_inv,eqGuard,binOp,Op.intBits,Eo],.dat (.i _ _)⟩
def Io : L_ V->O_ (L_ Value)
 |[]=>X []|.i k n::r=>(Io r).map (.int k n::·)|.b x::r=>(Io r).map (.bool x::·)|.s x::r=>(Io r).map (.string x::·)|_=>n_
def Qv6 {Z:Nat->O_ Xh}{I:Nat->Prop}{w:World}:∀{O:L_ V} {vs xs:L_ Value},Io O=X vs->xs.length=O.length->(∀(j:Nat) x v,xs[j]? = X x->O[j]? = X v->QW Z I w x v)->xs=vs:=by
 intro O
 induction O with
 |nil=>intro vs xs h hl _;cases h;exact QnG hl
 |cons c O ih=>
  intro vs xs h hl hr;cases xs with
  |nil=>cases hl
  |cons x xs=>
   have h0:=hr 0 x c rfl rfl;have hi:∀{us:L_ Value},Io O=X us->xs=us:=λe=>ih e (by simpa using hl) λj x v a b=>hr (j+1) x v a b;cases c with
   |i k n=>simp only[Io,Yo]at h;obtain⟨us,e,rfl⟩:=h;rw[h0.i_inv,hi e]
   |b k=>simp only[Io,Yo]at h;obtain⟨us,e,rfl⟩:=h;rw[h0.b_inv,hi e]
   |s k=>simp only[Io,Yo]at h;obtain⟨us,e,rfl⟩:=h;rw[h0.s_inv,hi e]
   |_=>cases h
def QW.aggVals {Z:Nat->O_ Xh}{I:Nat->Prop}{w:World}{x:Value}{O:L_ V}{vs:L_ Value}(h:QW Z I w x (.agg O))(hv:Io O=X vs):x=.agg vs.toArray:=by
 obtain⟨xs,rfl,hs,hr⟩:=h.agg_inv;have:=Qv6 (xs:=xs.toList) hv (by simpa using hs) λj x v a b=>hr j x v (by simpa using a) b;rw[<-this]
def EqT (P:Program)(T:TypeId)(vs us:L_ Value)(r:Bool):Prop:=P.eqGuardType P.depth T=f_/\∀w,(Op.equalIn 10000 T (.agg vs.toArray) (.agg us.toArray)).run P w=.ok r w
def Qf.eqAgg {x y:Operand}{T U d:Nat}{O ds:L_ V}{vs us:L_ Value}{r:Bool}(ho:o.op=.binOp .eql T x y U)(hd:o.dst=X d)(hn:B_ d C)(hx:Y.opd x=X (.agg O))(hy:Y.opd y=X (.agg ds))(hv:Io O=X vs)(hu:Io ds=X us)(h:EqT P T vs us r):
  Qf P C o Y (Y.put d (.b r)):=by
 refine Qf.same hd hn λZ a w hr=>⟨.bool r,?_,.dat (.b _)⟩;have h1:=(hr.opd hx).aggVals hv;have h2:=(hr.opd hy).aggVals hu;have h3:=h.2 w;simp only[execOp,ho,h1,h2,eqGuard,Xl,run_program,Xo,h.1];simp[binOp,Op.equal,Op.maxDepth,h3,h.1]
def Qf.neAgg {x y:Operand}{T U d:Nat}{O ds:L_ V}{vs us:L_ Value}{r:Bool}(ho:o.op=.binOp .neq T x y U)(hd:o.dst=X d)(hn:B_ d C)(hx:Y.opd x=X (.agg O))(hy:Y.opd y=X (.agg ds))(hv:Io O=X vs)(hu:Io ds=X us)(h:EqT P T vs us r):
  Qf P C o Y (Y.put d (.b (!r))):=by
 refine Qf.same hd hn λZ a w hr=>⟨.bool (!r),?_,.dat (.b _)⟩;have h1:=(hr.opd hx).aggVals hv;have h2:=(hr.opd hy).aggVals hu;have h3:=h.2 w;simp only[execOp,ho,h1,h2,eqGuard,Xl,run_program,Xo,h.1];simp[binOp,Op.equal,Op.maxDepth,h3,h.1]
end
section
variable {P:Program}{C:XC}{Y:St}{Q:Exit->St->Prop}{ks:L_ Fr}{ops:Array Oper}{rest:L_ Oper}{o:Oper}
def AK.eqNil {x y:Operand}{T U d e z:Nat}{rows:L_ (L_ V)}(hg:o.guard=n_)(ho:o.op=.binOp .eql T x y U)(hd:o.dst=X d)(hn:B_ d C)(hx:Y.opd x=X (.sl z rows))(hy:Y.opd y=X (.lit (.slice n_ 0 0)))(hT:P.underlying T=X (.slice e))
  (h1:rows=[]->AK P C Q (.o ops rest) ks (Y.put d (.b t_))) (h2:AK P C Q (.o ops rest) ks (Y.put d (.b f_))):AK P C Q (.o ops (o::rest)) ks Y:=by
 intro a w hR;obtain⟨Z,hr⟩:=hR;have hyv:a.eval y=.slice n_ 0 0:=(hr.opd hy).lit_inv;have h:∀p l c,a.eval x=.slice p l c->(execOp a.eval o).run P w=.ok (.value (.bool p.isNone)) w:=λp l c e=>by
  simp[execOp,ho,e,hyv,eqGuard,binOp,run_equal_slice_nil w T _ p l c hT]
 have go:∀{v:Bool} {σ':St},(execOp a.eval o).run P w=.ok (.value (.bool v)) w->σ'=Y.put d (.b v)->AK P C Q (.o ops rest) ks σ'->wpListIn C.F 0 P ops (up C (unw P C Q ks)) (o::rest) a w:=λ{v σ'} e e2 k=>by
  have:Qf P C { o with op:=.move (.const (.bool v)) } Y (Y.put d (.b v)):=Qf.move rfl hd hn rfl;simp only[wpListIn,Region.wanted,hg,if_true];refine⟨λ_ _=>trivial,?_⟩;rw[QiO e,Oper.uponIn_value];subst e2;refine k _ _ ⟨Z,?_⟩;rw[hd];exact hr.put (XT hn) (.dat (.b _))
 rcases(hr.opd hx).sl_inv with⟨p,c,O,h0⟩|⟨b,off,cap,O,_⟩
 ·cases p with|none=>exact go (h n_ 0 c O) rfl (h1 h0)|some p=>exact go (h (X p) 0 c O) rfl h2
 exact go (h _ _ _ O) rfl h2
end
section
variable {P:Program}{C:XC}{Y:St}{o:Oper}
def Qf.buildAny {T d e z by_ n:Nat}{O:Array (Nat×Operand)}{zs vs:L_ V}{qs:S_}(ho:o.op=.buildSlice T n O)(hd:o.dst=X d)(hn:B_ d C)
  (hT:YD P T=X (e,z,by_)) (hz:XY P e=X zs) (hzl:zs.length=z) (hz0:z≠0) (hbig:n*z<=16777216) (hq:Y.opds O.toList=X qs) (hv:qs.all (λq=>q.2.isV)=t_)
  (hf:Bw (λi=>X (i*z,z)) ((List.range (n*z)).map λk=>zs.getD (k % z) .J) qs=X vs)
  (hfr:look Y.hp d=n_):Qf P C o Y ((Y.set d (.var vs)).put d (.own d n)):=by
 refine Qf.val λZ a w hr=>?_;obtain⟨hu,i,hi,hi1,_⟩:=KI hT;obtain⟨i',zv,hi',hz',rfl⟩:=FU hz;rw[hi]at hi';cases hi';have hzs:zv.cells.size=i.size:=by rw[hi1];simpa using hzl
 have hf0:=hf;rw[<-hi1]at hf;rw[<-Qg8 zv.cells n i.size hzs (by omega)]at hf;obtain⟨xs',h1,h2,h3⟩:=hr.fill hq hv hf;refine⟨.slice (X ⟨w.heap.size,0,n_⟩) n n,w.alloc (.cells xs' e),ext Z d ⟨w.heap.size,n,1,[],0⟩,?_,?_⟩
 ·have e2:(O.map λp=>(p.1,a.eval p.2)).toList=O.toList.map λp=>(p.1,a.eval p.2):=by simp
  have hb:¬(n*i.size > 2 ^ 24):=by rw[hi1];omega
  by_cases hn0:n*i.size=0
  ·have hn1:n=0:=by
    rw[hi1]at hn0;rcases Nat.mul_eq_zero.1 hn0 with h|h
    ·exact h
    exact absurd h hz0
   subst hn1;simp only[Ij]at h1;rw[QgX,QlC]at h1;simp only[execOp,ho,Instr.buildSlice,Xl,run_underlying hu,Xo,sizeOf,typeInfo,run_program,hi,Xx,Ij,if_true,e2,QgX,QlC];simp[h1,newRow]
  simp only[execOp,ho,Instr.buildSlice,Xl,run_underlying hu,Xo,sizeOf,typeInfo,run_program,hi,Xx,if_neg hb,if_neg hn0,zeroValue,hz',e2,h1,newRow,run_newObj];simp
 have hN:=hr.none_of_look hfr;have hnew:=hr.alloc (cap:=n) (z:=1) hfr (C.slot hn) (ob:=.var vs) (obj:=.cells xs' e)
  ⟨xs',e,heap_alloc_new w _,h2,rfl,λj x v hx hv'=>(h3 j x v hx hv').mono (hr.mono_ext _ hN) (hr.imm_alloc d n 1 _ hN)⟩
 rw[hd];refine hnew.put (XT hn) ?_;exact .own d n ⟨w.heap.size,n,1,[],0⟩ (XQ _ _ _) (Yk _)
def Qf.idxV {T d e z by_ b n m:Nat}{x y:Operand}{cs:L_ V}{k:IntKind}{j:Int}(ho:o.op=.indexAddr T x y)(hd:o.dst=X d)(hn:B_ d C)
  (hx:Y.opd x=X (.own b n)) (hy:Y.opd y=X (.i k j)) (hT:YD P T=X (e,z,by_)) (hb:look Y.hp b=X (.var cs)) (h:(0<=j/\j<n)/\j.toNat*z=m):
  Qf P C o Y (Y.put d (.loc b 0 m)):=by
 refine Qf.same hd hn λZ a w hr=>?_;obtain⟨⟨h,h1⟩,rfl⟩:=h;rcases(hr.opd hx).own_inv with⟨_,rfl⟩|⟨B,hB,O,he⟩
 ·omega
 refine⟨.pointer (X ⟨B.b,B.off+(0*B.z+j.toNat*z),n_⟩),?_,.loc b 0 (j.toNat*z) B hB⟩;simp only[execOp,ho,he,(hr.opd hy).i_inv,Xl,Qc5 hT h h1,Xo,Xx,Addr.add_lit,Ij,Gp]
end
section
variable {P:Program}{C:XC}{Q:Exit->St->Prop}
def Rnd (P:Program)(C:XC)(Q:Exit->St->Prop)(ks:L_ Fr)(c:Code):Nat->St->Prop
 |0,_=>False|n+1,Y=>AK P C Q (.c c) (.cut (Rnd P C Q ks c n)::ks) Y
def AK.rnd {ks:L_ Fr}{c:Code}{n:Nat}{Y:St}(h:AK P C Q (.c c) (.cut (Rnd P C Q ks c n)::ks) Y):Rnd P C Q ks c (n+1) Y:=h
def AK.loopN {ks:L_ Fr}{c:Code}(n:Nat){Y:St}(h:Rnd P C Q ks c n Y):AK P C Q (.c (.loop c)) ks Y:=by
 have key:∀(n:Nat) (Y:St) (a:Act) (w:World),Rnd P C Q ks c n Y->R C Y a w->Code.roundsIn C.F 0 P c (up C (unw P C Q ks)) n a w:=by
  intro n
  induction n with
  |zero=>intro Y a w h;exact h.elim|succ n ih=>
   intro Y a w h O;rw[roundsIn_succ];refine wpIn_mono (h a w O) ?_;rintro e a' w' ⟨σ',h1,h2⟩;cases e with|normal=>exact ih σ' a' w' h1 h2|_=>exact⟨σ',h1,h2⟩
 exact λa w O=>wpIn_loop_rounds n (key n Y a w h O)
end
end Go.Vm
