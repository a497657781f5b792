/- A part of the proof. -/
import Derived.Test.YtopbdpofkfimkaaGreatDoorS2V1
set_option linter.all false
namespace Go.Vm
open Go Go.RowKit
open Option renaming some→X,none→n_
open Bool renaming true→t_,false→f_
section
variable {κ α β:Type}[DecidableEq κ]
def Qy : L_ (κ×α)->κ->O_ α
 |[],_=>n_|(a,x)::r,k=>if a=k then X x else Qy r k
def AX (lt:κ->κ->Bool):L_ (κ×α)->κ->α->L_ (κ×α)
 |[],k,v=>[(k,v)]|(a,x)::r,k,v=>if lt k a=t_ then(k,v)::(a,x)::r else(a,x)::AX lt r k v
def CR : L_ (κ×α)->κ->α->L_ (κ×α)
 |[],_,_=>[]|(a,x)::r,k,v=>if a=k then(k,v)::r else(a,x)::CR r k v
def XF (lt:κ->κ->Bool)(l:L_ (κ×α))(k:κ)(v:α):L_ (κ×α):=match Qy l k with|some _=>CR l k v|none=>AX lt l k v
def Qg1 : ∀{l:L_ (κ×α)} {k:κ} {v:α},Qy l k=X v->(k,v)∈l:=by
 intro l
 induction l with
 |nil=>intro k v h;cases h
 |cons p l O=>
  intro k v h;obtain⟨a,x⟩:=p;rw[Qy]at h;split at h
  ·rename_i e;subst e;cases h;exact Yd
  exact Yq _ (O h)
def Pi : ∀{l:L_ (κ×α)} {k:κ} {v:α},(l.map Prod.fst).Nodup->(k,v)∈l->Qy l k=X v:=by
 intro l
 induction l with
 |nil=>intro k v _ h;cases h
 |cons p l ih=>
  intro k v O h;obtain⟨a,x⟩:=p;rw[GC,Uv]at O;rw[Qy];rcases Yw.1 h with h|h
  ·cases h;simp
  have:a≠k:=λe=>O.1 (by rw[show(a,x).1=k from e];exact Ye.2 ⟨(k,v),h,rfl⟩);rw[if_neg this];exact ih O.2 h
def QuD : ∀{l:L_ (κ×α)} {k:κ},Qy l k=n_->∀p∈l,p.1≠k:=by
 intro l
 induction l with
 |nil=>intro k _ p h;cases h
 |cons q l ih=>
  intro k h p hp;obtain⟨a,x⟩:=q;rw[Qy]at h;split at h
  ·cases h
  rename_i O;rcases Yw.1 hp with e|hp
  ·subst e;exact O
  exact ih h p hp
def ZH (lt:κ->κ->Bool):∀(l:L_ (κ×α)) (k:κ) (v:α),(AX lt l k v).Perm ((k,v)::l):=by
 intro l
 induction l with
 |nil=>intro k v;exact .refl _|cons p l h=>
  intro k v;obtain⟨a,x⟩:=p;rw[AX];split
  ·exact .refl _
  exact((h k v).cons (a,x)).trans (.swap _ _ _)
def Qg2 : ∀(l:L_ (κ×α)) (k:κ) (v:α),(CR l k v).map Prod.fst=l.map Prod.fst:=by
 intro l
 induction l with
 |nil=>intro k v;rfl|cons p l h=>
  intro k v;obtain⟨a,x⟩:=p;rw[CR];split
  ·rename_i e;subst e;rfl
  rw[GC,GC,h]
def QrP : ∀{l:L_ (κ×α)} {k:κ} {v:α},(l.map Prod.fst).Nodup->(∃x,(k,x)∈l)->∀p,p∈CR l k v↔p=(k,v)\/(p∈l/\p.1≠k):=by
 intro l
 induction l with
 |nil=>intro k v _ ⟨x,h⟩;cases h
 |cons q l ih=>
  intro k v hn ⟨x,hx⟩ p;obtain⟨a,y⟩:=q;rw[GC,Uv]at hn;rw[CR];split
  ·rename_i e;subst e;have hno:∀p∈l,p.1≠a:=λp hp e=>hn.1 (Ye.2 ⟨p,hp,e⟩);constructor
   ·intro h;rcases Yw.1 h with h|h
    ·exact .inl h
    exact .inr ⟨Yq _ h,hno p h⟩
   rintro (h|⟨h,h'⟩)
   ·rw[h];exact Yd
   rcases Yw.1 h with h|h
   ·subst h;exact absurd rfl h'
   exact Yq _ h
  rename_i O;have hx':(k,x)∈l:=by
   rcases Yw.1 hx with h|h
   ·cases h;exact absurd rfl O
   exact h
  have:=ih hn.2 ⟨x,hx'⟩ (v:=v) p;rw[Yw,this,Yw];constructor
  ·rintro (h|h|h)
   ·subst h;exact .inr ⟨.inl rfl,O⟩
   ·exact .inl h
   exact .inr ⟨.inr h.1,h.2⟩
  rintro (h|⟨h|h,h'⟩)
  ·exact .inr (.inl h)
  ·exact .inl h
  exact .inr (.inr ⟨h,h'⟩)
def Qg3 (lt:κ->κ->Bool){l:L_ (κ×α)}{k:κ}{v:α}(h:(l.map Prod.fst).Nodup):((XF lt l k v).map Prod.fst).Nodup:=by
 unfold XF;split
 ·rw[Qg2];exact h
 rename_i hn;refine(((ZH lt l k v).map Prod.fst).nodup_iff).2 ?_;rw[GC,Uv];refine⟨λO=>?_,h⟩;obtain⟨p,hp,e⟩:=Ye.1 O;exact QuD hn p hp e
end
def QJ {κ α:Type}(e:κ->V)(f:α->V)(l:L_ (κ×α)):L_ (V×V):=l.map λp=>(e p.1,f p.2)
structure Dh (P:Program) (K:TypeId) {κ:Type} (e:κ->V) (val:κ->Value):Prop where
 d:∃D,P.underlying K=X D/\∀k,MapKept.IsKey D (val k)
 inv:∀I w x k,XJ I w x (e k)->x=val k
 dat:∀I w k,XJ I w (val k) (e k)
 edat:∀k,(e k).dat=t_
 inj:∀a b,val a=val b->a=b
 einj:∀a b,e a=e b->a=b
def Qyf (P:Program)(K:TypeId)(h:IntKind):Bool:=match P.underlying K with|some (.int k)=>decide (k=h)|_=>f_
def Dh.int {P:Program}{K:TypeId}{O:IntKind}(h:Qyf P K O=t_):Dh P K (V.i O) (Value.int O):=by
 unfold Qyf at h;split at h
 ·rename_i k hk;have:=QZ h;subst this;refine⟨⟨_,hk,λ_=>rfl⟩,λI w x k h=>by cases h;rfl,λI w k=>.i _ _,λ_=>rfl,λa b h=>by cases h;rfl,λa b h=>by cases h;rfl⟩
 cases h
def Dh.str {P:Program}{K:TypeId}(h:QeX P K=t_):Dh P K V.s Value.string:=
 ⟨⟨_,Vo h,λ_=>trivial⟩,λI w x k h=>by cases h;rfl,λI w k=>.s _,λ_=>rfl,λa b h=>by cases h;rfl,λa b h=>by cases h;rfl⟩
section
variable {P:Program}{K:TypeId}{κ α:Type}[DecidableEq κ]{e:κ->V}{val:κ->Value}{f:α->V}{I:Nat->Prop}{w:World}{B:QV}{l:L_ (κ×α)}
def SE (he:∀a b,e a=e b->a=b):((QJ e f l).map Prod.fst).Nodup↔(l.map Prod.fst).Nodup:=by
 have:(QJ e f l).map Prod.fst=(l.map Prod.fst).map e:=by simp[QJ]
 rw[this];constructor
 ·intro h;exact(Zk.1 h).imp λO e'=>O (by rw[e'])
 intro h;exact Zk.2 (h.imp λO e'=>O (he _ _ e'))
def Dz.find (hk:Dh P K e val){D:TypeDesc}(hD:P.underlying K=X D)(h:Dz I w B (QJ e f l))(k:κ):∃es O,w.heap[B.b]? = X (.map es O)/\MapKept.Stamped es O/\(l.map Prod.fst).Nodup/\
  es.size=l.length/\MapKept.IsKey D (val k)/\
  ((Qy l k=n_/\Instr.findNow D (val k) es.toList 0=X n_/\∀x∈es.toList,x.key≠val k)\/
   ∃j x v,Qy l k=X v/\Instr.findNow D (val k) es.toList 0=X (X (j,x.val))/\es[j]? = X x/\x.key=val k/\XJ I w x.val (f v)):=by
 obtain⟨es,O,h1,h2,h3,h4,h5,h6⟩:=h;obtain⟨D',hD',hK⟩:=hk.d;rw[hD]at hD';cases hD';have hn:=(SE hk.einj).1 h3;have hrow:∀x∈es.toList,∃a y,(a,y)∈l/\x.key=val a/\XJ I w x.val (f y):=λx hx=>by
  obtain⟨p,hp,a1,a2⟩:=h5 x hx;obtain⟨q,hq,rfl⟩:=Ye.1 hp;exact⟨q.1,q.2,hq,hk.inv _ _ _ _ a1,a2⟩
 have hks:∀x∈es.toList,MapKept.IsKey D x.key:=λx hx=>by obtain⟨a,y,_,e1,_⟩:=hrow x hx;rw[e1];exact hK a
 refine⟨es,O,h1,h2,hn,by rw[h4,QJ,KO],hK k,?_⟩;rcases MapKept.findNow_spec (hK k) es.toList 0 hks with⟨g1,g2⟩|⟨j,x,g1,g2,g3⟩
 ·refine .inl ⟨?_,g1,g2⟩;cases hg:Qy l k with
  |none=>rfl|some v=>
   obtain⟨x,hx,a1,_⟩:=h6 (e k,f v) (Ye.2 ⟨(k,v),Qg1 hg,rfl⟩);exact absurd (hk.inv _ _ _ _ a1) (g2 x hx)
 obtain⟨a,y,hm,e1,e2⟩:=hrow x (XG g2);have:a=k:=hk.inj _ _ (by rw[<-e1,g3]);subst this;exact .inr ⟨j,x,y,Pi hn hm,by simpa using g1,by simpa using g2,g3,e2⟩
end
def IZ (P:Program)(T:TypeId):O_ (TypeId×TypeId):=match P.underlying T with|some (.map k e)=>X (k,e)|_=>n_
def EZ {P:Program}{T k e:TypeId}(h:IZ P T=X (k,e)):P.underlying T=X (.map k e):=by
 unfold IZ at h;split at h
 ·rename_i O;cases h;exact O
 cases h
section
variable {P:Program}{C:Xs}{Y:St}{o:Oper}
def Stp.makeMap {T d:Nat}(ho:o.op=.makeMap T n_)(O:o.dst=X d)(h:B_ d C)(hf:look Y.hp d=n_):Stp P C o Y ((Y.set d (.map [])).put d (.map d)):=by
 refine Stp.val λZ a w hr=>?_;refine⟨.map (X w.heap.size),w.alloc (.map #[] 0),ext Z d ⟨w.heap.size,0,0,[],0⟩,?_,?_⟩
 ·simp[execOp,ho,Instr.makeMap]
 rw[O];refine(hr.alloc (cap:=0) (z:=0) hf (C.slot h) (ob:=.map []) (obj:=.map #[] 0) ⟨#[],0,heap_alloc_new w _,MapKept.stamped_empty 0,by simp,rfl,by simp,by simp⟩).put (Xv h) ?_;exact .map d ⟨w.heap.size,0,0,[],0⟩ (Xb _ _ _)
def Ig (P:Program)(T:TypeId)(z:V):Prop:=∃i x,P.info? T=X i/\i.zero=X x/\∀I w,XJ I w x z
def Stp.lookup {T d b K E:Nat}{x y:Operand}{κ α:Type}[DecidableEq κ]{e:κ->V}{val:κ->Value}{f:α->V}{l:L_ (κ×α)}{k:κ}{z:α}{v:V}(ho:o.op=.lookup T x y f_)(hd:o.dst=X d)
  (hn:B_ d C) (hx:Y.opd x=X (.map b)) (hb:look Y.hp b=X (.map (QJ e f l))) (hy:Y.opd y=X (e k)) (hT:IZ P T=X (K,E)) (hk:Dh P K e val) (hz:Ig P E (f z))
  (hv:f ((Qy l k).getD z)=v):Stp P C o Y (Y.put d v):=by
 refine Stp.same hd hn λZ a w hr=>?_;subst hv;obtain⟨B,hB,he⟩:=(hr.opd hx).map_inv;have O:a.eval y=val k:=hk.inv _ _ _ _ ((hr.opd hy).toDat (hk.edat k));obtain⟨D,h,_⟩:=hk.d;obtain⟨es,clock,h1,h2,h3,h4,h5,h6⟩:=Dz.find hk h (hr.block hB hb) k;obtain⟨i,zx,hi,hzx,hzd⟩:=hz;rcases h6 with⟨g1,g2,_⟩|⟨j,xx,v,g1,g2,g3,g4,g5⟩
 ·refine⟨zx,?_,by rw[g1];exact .dat (hzd _ _)⟩;simp[execOp,ho,he,O,Instr.lookup,run_underlying (EZ hT),MapKept.run_getObj_map h1,MapKept.run_checkKey h h5,MapKept.run_findKey h g2,zeroValue,typeInfo,hi,hzx]
 refine⟨xx.val,?_,by rw[g1];exact .dat g5⟩;simp[execOp,ho,he,O,Instr.lookup,run_underlying (EZ hT),MapKept.run_getObj_map h1,MapKept.run_checkKey h h5,MapKept.run_findKey h g2]
def Stp.lookupOk {T d b K E:Nat}{x y:Operand}{κ α:Type}[DecidableEq κ]{e:κ->V}{val:κ->Value}{f:α->V}{l:L_ (κ×α)}{k:κ}{z:α}{v:V}{t:Bool}(ho:o.op=.lookup T x y t_)(hd:o.dst=X d)
  (hn:B_ d C) (O:Y.opd x=X (.map b)) (hb:look Y.hp b=X (.map (QJ e f l))) (hy:Y.opd y=X (e k)) (hT:IZ P T=X (K,E)) (hk:Dh P K e val) (hz:Ig P E (f z))
  (hv:f ((Qy l k).getD z)=v) (ht:(Qy l k).isSome=t):Stp P C o Y (Y.put d (.tup [v,.b t])):=by
 refine Stp.same hd hn λZ a w hr=>?_;subst hv ht;obtain⟨B,hB,he⟩:=(hr.opd O).map_inv;have hyv:a.eval y=val k:=hk.inv _ _ _ _ ((hr.opd hy).toDat (hk.edat k));obtain⟨D,h,_⟩:=hk.d;obtain⟨es,clock,h1,h2,h3,h4,h5,h6⟩:=Dz.find hk h (hr.block hB hb) k;obtain⟨i,zx,hi,hzx,hzd⟩:=hz;have two:∀{x:Value} {u:V} {t:Bool},XJ (Xc C Z w) w x u->QR Z (Xc C Z w) w (.tuple #[x,.bool t]) (.tup [u,.b t]):=λ{x u t} h=>
  .dat (.tup _ _ rfl λj x' u' O hu=>by
   match j with|0=>simp at O hu;subst O;subst hu;exact h|1=>simp at O hu;subst O;subst hu;exact .b _|j+2=>simp at O)
 rcases h6 with⟨g1,g2,_⟩|⟨j,xx,v,g1,g2,g3,g4,g5⟩
 ·refine⟨.tuple #[zx,.bool f_],?_,by rw[g1];exact two (hzd _ _)⟩;simp[execOp,ho,he,hyv,Instr.lookup,run_underlying (EZ hT),MapKept.run_getObj_map h1,MapKept.run_checkKey h h5,MapKept.run_findKey h g2,zeroValue,typeInfo,hi,hzx]
 refine⟨.tuple #[xx.val,.bool t_],?_,by rw[g1];exact two g5⟩;simp[execOp,ho,he,hyv,Instr.lookup,run_underlying (EZ hT),MapKept.run_getObj_map h1,MapKept.run_checkKey h h5,MapKept.run_findKey h g2]
def GH {w:World}{r k:Nat}(o:Obj)(h:k≠r):(w.heap.setIfInBounds r o)[k]? = w.heap[k]? := by
 rw[QeW,if_neg (Ne.symm h)]
def Stp.mapUpdateI {T b K E:Nat}{x y u:Operand}{κ α:Type}[DecidableEq κ]{e:κ->V}{val:κ->Value}{f:α->V}{l:L_ (κ×α)}{k:κ}{v:α}(lt:κ->κ->Bool)(ho:o.op=.mapUpdate T x y u\/o.op=.insert T x y u)(hd:o.dst=n_)
  (O:Y.opd x=X (.map b)) (hb:look Y.hp b=X (.map (QJ e f l))) (hy:Y.opd y=X (e k)) (hu:Y.opd u=X (f v)) (hT:IZ P T=X (K,E)) (hk:Dh P K e val) (hv:(f v).dat=t_):
  Stp P C o Y (Y.set b (.map (QJ e f (XF lt l k v)))):=by
 refine Stp.skp λZ a w hr=>?_;obtain⟨B,hB,he⟩:=(hr.opd O).map_inv;have hyv:a.eval y=val k:=hk.inv _ _ _ _ ((hr.opd hy).toDat (hk.edat k));have huv:=(hr.opd hu).toDat hv;obtain⟨D,hD,_⟩:=hk.d;have hrep:=hr.block hB hb;obtain⟨es,clock,h1,h2,h3,h4,h5,h6⟩:=Dz.find hk hD hrep k;obtain⟨es',clock',h1',_,_,_,r5,r6⟩:=hrep;rw[h1]at h1';cases h1';have hlt:B.b<w.heap.size:=(hr.lt b B _ hB B.self).1;have write:∀(es2:Array MapEntry) (h:Nat) (l2:L_ (κ×α)),MapKept.Stamped es2 h->(l2.map Prod.fst).Nodup->es2.size=l2.length->
   (∀x∈es2.toList,∃p∈l2,x.key=val p.1/\XJ (Xc C Z w) w x.val (f p.2))->(∀p∈l2,∃x∈es2.toList,x.key=val p.1/\XJ (Xc C Z w) w x.val (f p.2))->
   RR C Z (Y.set b (.map (QJ e f l2))) a { w with heap:=w.heap.setIfInBounds B.b (.map es2 h) }:=by
  intro es2 h l2 a1 a2 a3 a4 a5;have hI:∀k,Xc C Z w k->Xc C Z { w with heap:=w.heap.setIfInBounds B.b (.map es2 h) } k/\(w.heap.setIfInBounds B.b (.map es2 h))[k]? = w.heap[k]? := λk hk'=>
   ⟨⟨by simpa using hk'.1,hk'.2⟩,GH _ λe=>hk'.2.2 b B hB (.inl e)⟩
  refine hr.write hB rfl rfl rfl (by simp) (λk hne=>GH _ hne) ⟨es2,h,by simp[hlt],a1,(SE hk.einj).2 a2,by rw[a3,QJ,KO],λx O=>?_,λp hp=>?_⟩
  ·obtain⟨p,hp,e1,e2⟩:=a4 x O;exact⟨_,Ye.2 ⟨p,hp,rfl⟩,by rw[e1];exact hk.dat _ _ _,e2.mono hI⟩
  obtain⟨q,hq,rfl⟩:=Ye.1 hp;obtain⟨x,O,e1,e2⟩:=a5 q hq;exact⟨x,O,by rw[e1];exact hk.dat _ _ _,e2.mono hI⟩
 have old1:∀x∈es.toList,∃p∈l,x.key=val p.1/\XJ (Xc C Z w) w x.val (f p.2):=λx O=>by
  obtain⟨p,hp,a1,a2⟩:=r5 x O;obtain⟨q,hq,rfl⟩:=Ye.1 hp;exact⟨q,hq,hk.inv _ _ _ _ a1,a2⟩
 have old2:∀p∈l,∃x∈es.toList,x.key=val p.1/\XJ (Xc C Z w) w x.val (f p.2):=λp hp=>by
  obtain⟨x,O,a1,a2⟩:=r6 _ (Ye.2 ⟨p,hp,rfl⟩);exact⟨x,O,hk.inv _ _ _ _ a1,a2⟩
 rcases h6 with⟨g1,g2,g3⟩|⟨j,xx,v0,g1,g2,g3,g4,g5⟩
 ·refine⟨{ w with heap:=w.heap.setIfInBounds B.b (.map (es.push { key:=val k,val:=a.eval u,born:=clock }) (clock+1)) },Z,?_,?_⟩
  ·rcases ho with ho|ho<;>simp[execOp,ho,he,hyv,Instr.mapUpdate,run_underlying (EZ hT),MapKept.run_getObj_map h1,MapKept.run_checkKey hD h5,MapKept.run_findKey hD g2,MapKept.run_setObj_map _ h1]
  rw[hd];have hms:XF lt l k v=AX lt l k v:=by unfold XF;rw[g1]
  have hmem:∀p,p∈AX lt l k v↔p=(k,v)\/p∈l:=λp=>by rw[(ZH lt l k v).mem_iff,Yw]
  rw[hms];refine write _ _ _ (MapKept.stamped_push h2 g3) (by rw[<-hms];exact Qg3 lt h3) (by rw[(ZH lt l k v).length_eq];simp[h4]) (λx O=>?_) (λp hp=>?_)
  ·simp only[Array.toList_push,Jy,Hk]at O;rcases O with O|rfl
   ·obtain⟨p,hp,e1,e2⟩:=old1 x O;exact⟨p,(hmem p).2 (.inr hp),e1,e2⟩
   exact⟨(k,v),(hmem _).2 (.inl rfl),rfl,huv⟩
  rcases(hmem p).1 hp with rfl|hp
  ·exact⟨{ key:=val k,val:=a.eval u,born:=clock },by simp,rfl,huv⟩
  obtain⟨x,O,e1,e2⟩:=old2 p hp;exact⟨x,by simp only[Array.toList_push,Jy];exact .inl O,e1,e2⟩
 refine⟨{ w with heap:=w.heap.setIfInBounds B.b (.map (es.modify j λx=>{ x with key:=val k,val:=a.eval u }) clock) },Z,?_,?_⟩
 ·rcases ho with ho|ho<;>simp[execOp,ho,he,hyv,Instr.mapUpdate,run_underlying (EZ hT),MapKept.run_getObj_map h1,MapKept.run_checkKey hD h5,MapKept.run_findKey hD g2,MapKept.run_setObj_map _ h1,g3,g4,MapKept.run_keyThatStays h5]
 rw[hd];have hms:XF lt l k v=CR l k v:=by unfold XF;rw[g1]
 have hmem:=QrP h3 ⟨v0,Qg1 g1⟩ (v:=v);have hlen:(CR l k v).length=l.length:=by have:=congrArg List.length (Qg2 l k v);simpa using this
 have hjlt:j<es.size:=(Em.1 g3).1;have hmod:∀i:Nat,(es.modify j λx=>{ x with key:=val k,val:=a.eval u })[i]? = if i=j then X { xx with key:=val k,val:=a.eval u }else es[i]? := λi=>by
  rw[Qo3];by_cases hij:j=i
  ·subst hij;simp[g3]
  rw[if_neg hij,if_neg (Ne.symm hij)]
 have hkeyj:∀i x,es[i]? = X x->x.key=val k->i=j:=λi x O hxk=>by
  have hnd:=h2.2.2;have i1:(es.toList.map (·.key))[i]? = X (val k):=by simp[Ya,O,hxk]
  have i2:(es.toList.map (·.key))[j]? = X (val k):=by simp[Ya,g3,g4]
  exact(List.getElem?_inj (by simpa using (Em.1 O).1) hnd).1 (i1.trans i2.symm)
 rw[hms];refine write _ _ _ (MapKept.stamped_modify h2 _ _ (λ_ _=>rfl) λx _ O=>by rw[g3]at O;cases O;exact g4.symm) (by rw[Qg2];exact h3) (by rw[Array.size_modify,h4,hlen]) (λx O=>?_) (λp hp=>?_)
 ·obtain⟨i,hi⟩:=GD.1 O;rw[Sv,hmod]at hi;split at hi
  ·cases hi;exact⟨(k,v),(hmem _).2 (.inl rfl),rfl,huv⟩
  rename_i hne;obtain⟨p,hp,e1,e2⟩:=old1 x (by rw[GD];exact⟨i,by simpa using hi⟩);exact⟨p,(hmem p).2 (.inr ⟨hp,λe=>hne (hkeyj i x hi (by rw[e1,e]))⟩),e1,e2⟩
 rcases(hmem p).1 hp with rfl|⟨hp,hne⟩
 ·exact⟨_,GD.2 ⟨j,by rw[Sv,hmod,if_pos rfl]⟩,rfl,huv⟩
 obtain⟨x,O,e1,e2⟩:=old2 p hp;obtain⟨i,hi⟩:=GD.1 O;refine⟨x,GD.2 ⟨i,?_⟩,e1,e2⟩;have hij:i≠j:=λe=>by
  subst e;rw[Sv,g3]at hi;cases hi;exact hne (hk.inj _ _ (by rw[<-e1,g4]))
 rw[Sv,hmod,if_neg hij,<-Sv];exact hi
def Stp.mapUpdate {T b K E:Nat}{x y u:Operand}{κ α:Type}[DecidableEq κ]{e:κ->V}{val:κ->Value}{f:α->V}{l:L_ (κ×α)}{k:κ}{v:α}(lt:κ->κ->Bool)(ho:o.op=.mapUpdate T x y u)(hd:o.dst=n_)
  (hx:Y.opd x=X (.map b)) (O:look Y.hp b=X (.map (QJ e f l))) (hy:Y.opd y=X (e k)) (hu:Y.opd u=X (f v)) (h:IZ P T=X (K,E)) (hk:Dh P K e val) (hv:(f v).dat=t_):
  Stp P C o Y (Y.set b (.map (QJ e f (XF lt l k v)))):=
 Stp.mapUpdateI lt (.inl ho) hd hx O hy hu h hk hv
def Stp.insert {T b K E:Nat}{x y u:Operand}{κ α:Type}[DecidableEq κ]{e:κ->V}{val:κ->Value}{f:α->V}{l:L_ (κ×α)}{k:κ}{v:α}(lt:κ->κ->Bool)(ho:o.op=.insert T x y u)(hd:o.dst=n_)
  (hx:Y.opd x=X (.map b)) (O:look Y.hp b=X (.map (QJ e f l))) (hy:Y.opd y=X (e k)) (hu:Y.opd u=X (f v)) (h:IZ P T=X (K,E)) (hk:Dh P K e val) (hv:(f v).dat=t_):
  Stp P C o Y (Y.set b (.map (QJ e f (XF lt l k v)))):=
 Stp.mapUpdateI lt (.inr ho) hd hx O hy hu h hk hv
end
inductive Kt (Y:St) (dflt:Nat):Option Operand->Nat->Prop where
 |no:Kt Y dflt n_ dflt
 |val {x:Operand} {k:IntKind} {n:Int} {l:Nat}:Y.opd x=X (.i k n)->0<=n->n.toNat=l->Kt Y dflt (X x) l
section
variable {P:Program}{C:Xs}{Y:St}{o:Oper}{Z:Nat->O_ QV}{a:Act}{w:World}
def Gc {k:IntKind}{i:Int}{y:Nat}{h:BoundsCode}(O:0<=i)(h1:i.toNat<=y):(Instr.sliceBound (.int k i) y h).run P w=.ok i.toNat w:=by
 have:0<=i/\i<=(y:Int):=⟨O,by omega⟩;simp[Instr.sliceBound,asIntOf,this]
def Di (hr:RR C Z Y a w){lo hi:O_ Operand}{l h len cap:Nat}{b:Bool}(hl:Kt Y 0 lo l)(hh:Kt Y len hi h)(h1:l<=h)(h2:h<=cap):
  (Instr.sliceBounds b len cap (lo.map a.eval) (hi.map a.eval) n_).run P w=.ok (l,h,cap) w:=by
 cases hl with
 |no=>
  cases hh with|no=>simp[Instr.sliceBounds]|val O e2 e3=>subst e3;simp[Instr.sliceBounds,(hr.opd O).i_inv,Gc e2 h2]
 |val O e2 e3=>
  subst e3;cases hh with|no=>simp[Instr.sliceBounds,(hr.opd O).i_inv,Gc e2 h1]|val f1 f2 f3=>subst f3;simp[Instr.sliceBounds,(hr.opd O).i_inv,Gc e2 h1,(hr.opd f1).i_inv,Gc f2 h2]
def Stp.sliceS {T d l h:Nat}{x:Operand}{lo hi:O_ Operand}{s:ByteArray}(ho:o.op=.slice T x lo hi n_)(hd:o.dst=X d)(hn:B_ d C)(hx:Y.opd x=X (.s s))(hT:QeX P T=t_)
  (hl:Kt Y 0 lo l) (hh:Kt Y s.size hi h) (h1:l<=h) (h2:h<=s.size):Stp P C o Y (Y.put d (.s (s.extract l h))):=by
 refine Stp.same hd hn λZ a w O=>⟨_,?_,.dat (.s _)⟩;simp[execOp,ho,(O.opd hx).s_inv,Instr.sliceAt,Instr.slice,run_underlying (Vo hT),Di O hl hh h1 h2]
def Stp.sliceD {T d l h e z by_:Nat}{x:Operand}{lo hi:O_ Operand}{rows us:L_ (L_ V)}(ho:o.op=.slice T x lo hi n_)(hd:o.dst=X d)(hn:B_ d C)(hx:Y.opd x=X (.sl z rows))
  (hT:XZ P T=X (e,z,by_)) (hl:Kt Y 0 lo l) (hh:Kt Y rows.length hi h) (h1:l<=h) (h2:h<=rows.length) (hu:(rows.drop l).take (h-l)=us):Stp P C o Y (Y.put d (.sl z us)):=by
 refine Stp.same hd hn λZ a w hr=>?_;subst hu;obtain⟨hu,i,hi',hiz,_⟩:=Jq hT;rcases(hr.opd hx).sl_inv with⟨a0,cap,he,rfl⟩|⟨b,off,cap,he,hI,hcap,hok,c,hc,O⟩
 ·have h0:h=0:=by simpa using h2
  subst h0;have l0:l=0:=by omega
  subst l0;refine⟨.slice (if cap=0 then a0 else a0.map (·.add (0*i.size))) 0 cap,?_,.dat (.sl0 _ _ _)⟩;have hh':Kt Y 0 hi 0:=hh;simp[execOp,ho,he,Instr.sliceAt,Instr.slice,run_underlying hu,Di hr hl hh' h1 (by simp:0<=cap),sizeOf,typeInfo,hi']
 refine⟨.slice (if cap=l then X ⟨b,off,n_⟩else X ((⟨b,off,n_⟩:Addr).add (l*i.size))) (h-l) (cap-l),?_,.dat ?_⟩
 ·simp only[execOp,ho,he,Instr.sliceAt,Instr.slice,run_underlying hu,CQ,Di hr hl hh h1 (by omega:h<=cap),sizeOf,typeInfo,hi',Xh,Xq,run_program,Xp,Jh,CQ]
 by_cases hlh:h-l=0
 ·rw[hlh];simp only[List.take_zero];exact .sl0 _ _ _
 have hcl:cap≠l:=by omega
 rw[if_neg hcl,hiz,Addr.add_lit];refine .sl b (off+l*z) (h-l) (cap-l) z _ (λj=>c (l*z+j)) hI (by simp;omega) (by omega) (λr hr'=>hok r (Nr (DV hr'))) (λj hj=>?_) (λk r hk j v hj=>?_)
 ·have hle:l*z+(h-l)*z<=rows.length*z:=by rw[<-YS];exact Ys _ (by omega)
  have:=hc (l*z+j) (by omega);rw[Ns];exact this
 rw[YQ]at hk;split at hk
 ·rw[WP]at hk;have:=O (l+k) r hk j v hj;rw[YS]at this;rw[<-Ns];exact this
 cases hk
def RR.shrink (h:RR C Z Y a w){b z:Nat}{rs:L_ (L_ V)}(hb:look Y.hp b=X (.arr z rs))(n:Nat):RR C Z (Y.set b (.arr z (rs.take n))) a w:=by
 refine⟨h.os,h.tape,h.output,h.size,h.kept,h.inj,λo B hB=>?_,h.lt,h.new,h.stay.set hb,h.tmps,h.defers,h.frame,λo ob O=>?_⟩
 ·by_cases e:o=b
  ·subst e;exact⟨_,Y.look_set_same _ _⟩
  obtain⟨ob,h1⟩:=h.dom o B hB;exact⟨ob,by rw[Y.look_set_other _ (Ne.symm e)];exact h1⟩
 by_cases e:o=b
 ·subst e;rw[Y.look_set_same]at O;cases O;rcases h.heap o _ hb with⟨B,hB,h1,h2,h3,cs,E,h4,h5,h6⟩|⟨h1,h2⟩
  ·refine .inl ⟨B,hB,h1,by simp;omega,λr hr=>h3 r (DV hr),cs,E,h4,h5,λi r hi=>?_⟩;rw[YQ]at hi;split at hi
   ·exact h6 i r hi
   cases hi
  exact .inr ⟨h1,by show rs.take n=[];rw[show rs=[]from h2,List.take_nil]⟩
 rw[Y.look_set_other _ (Ne.symm e)]at O;exact h.heap o ob O
def Stp.sliceO {T d b n h e z by_:Nat}{x:Operand}{lo hi:O_ Operand}{rs us:L_ (L_ V)}(ho:o.op=.slice T x lo hi n_)(hd:o.dst=X d)(hn:B_ d C)(hx:Y.opd x=X (.own b n))
  (hb:look Y.hp b=X (.arr z rs)) (hT:XZ P T=X (e,z,by_)) (hl:Kt Y 0 lo 0) (hh:Kt Y n hi h) (h2:h<=n) (hu:rs.take h=us):Stp P C o Y ((Y.set b (.arr z us)).put d (.own b h)):=by
 refine Stp.val λZ a w hr=>?_;subst hu;obtain⟨hu,i,O,hiz,_⟩:=Jq hT;have hs:=hr.shrink hb h;rcases(hr.opd hx).own_inv with⟨he,rfl⟩|⟨B,hB,hcap,he⟩
 ·have h0:h=0:=by omega
  subst h0;refine⟨.slice n_ 0 0,w,Z,?_,by rw[hd];exact hs.put (Xv hn) (.own0 b)⟩;simp[execOp,ho,he,Instr.sliceAt,Instr.slice,run_underlying hu,Di hr hl hh (by omega) (by omega:0<=0),sizeOf,typeInfo,O]
 refine⟨.slice (X ⟨B.b,B.off,n_⟩) h B.cap,w,Z,?_,by rw[hd];exact hs.put (Xv hn) (.own b h B hB (by omega))⟩;simp only[execOp,ho,he,Instr.sliceAt,Instr.slice,run_underlying hu,Di hr hl hh (by omega) (by omega:h<=B.cap),sizeOf,typeInfo,O,Xh,Xq,run_program,Xp,Jh,CQ,Ib,Addr.add_lit,PO,ite_self,Nat.sub_zero]
def RR.rebase (h:RR C Z Y a w){b:Nat}{B B':QV}(hB:Z b=X B)(hb2:b<639)(hb:B'.b=B.b)(hm:B'.more=B.more)(ob:Ob)(hob:Jg (ext Z b B') (Xc C Z w) w B' ob):
  RR C (ext Z b B') ((Y.kill b).set b ob) a w:=by
 have hh:∀k,B'.has k↔B.has k:=λk=>by unfold QV.has;rw[hb,hm]
 have old:∀o O,ext Z b B' o=X O->∃B2,Z o=X B2/\∀k,O.has k↔B2.has k:=λo O h1=>by
  by_cases e:o=b
  ·subst e;rw[Xb]at h1;cases h1;exact⟨B,hB,hh⟩
  rw[QP _ e]at h1;exact⟨O,h1,λ_=>Iff.rfl⟩
 have hImm:∀k,Xc C (ext Z b B') w k↔Xc C Z w k:=λk=>by
  unfold Xc;refine and_congr_right λ_=>and_congr_right λ_=>⟨λh1 o O h2=>?_,λh1 o O h2=>?_⟩
  ·by_cases e:o=b
   ·subst e;rw[hB]at h2;cases h2;rw[<-hh];exact h1 o B' (Xb _ _ _)
   exact h1 o O (by rw[QP _ e];exact h2)
  obtain⟨B2,h3,h4⟩:=old o O h2;rw[h4];exact h1 o B2 h3
 have hI:∀k,Xc C Z w k->Xc C (ext Z b B') w k/\w.heap[k]? = w.heap[k]? := λk hk=>⟨(hImm k).2 hk,rfl⟩;have hφ:∀o O,o≠b->Z o=X O->ext Z b B' o=X O:=λo O e h1=>by rw[QP _ e];exact h1
 refine⟨h.os,h.tape,h.output,h.size,h.kept,λo o' O B2 k h1 h2 h3 h4=>?_,λo O h1=>?_,λo O k h1 h2=>?_,λo O k h1 h2 h3=>?_,⟨λo O hge h1=>?_,λo ob' O hge ho h1=>?_⟩,h.tmps,h.defers.mono hI,λt v hv=>?_,λo ob' hob'=>?_⟩
 ·obtain⟨C1,c1,c2⟩:=old o O h1;obtain⟨C2,c3,c4⟩:=old o' B2 h2;exact h.inj o o' C1 C2 k c1 c3 ((c2 k).1 h3) ((c4 k).1 h4)
 ·by_cases e:o=b
  ·subst e;exact⟨ob,St.look_set_same _ _ _⟩
  rw[QP _ e]at h1;obtain⟨ob',h'⟩:=h.dom o O h1;exact⟨_,by rw[St.look_set_other _ _ (Ne.symm e)];exact Kj _ _ _ e h'⟩
 ·obtain⟨C1,c1,c2⟩:=old o O h1;exact h.lt o C1 k c1 ((c2 k).1 h2)
 ·obtain⟨C1,c1,c2⟩:=old o O h1;exact h.new o C1 k c1 ((c2 k).1 h2) h3
 ·rw[QP _ (by omega)]at h1;exact h.stay.1 o O hge h1
 ·have e:o≠b:=by omega
  rw[St.look_set_other _ _ (Ne.symm e)]at ho;obtain⟨_,ob2,h2,_⟩:=Ju _ _ _ ho;rw[QP _ e];exact h.stay.2 o ob2 O hge h2 h1
 ·obtain⟨v',hv',rfl⟩:=IU _ _ _ hv;obtain⟨x,hx,hr⟩:=h.frame t v' hv';exact⟨x,hx,hr.kill hφ hI⟩
 by_cases e:o=b
 ·subst e;rw[St.look_set_same]at hob';cases hob';exact .inl ⟨B',Xb _ _ _,hob.mono (λ_ _ h=>h) hI λ_ _=>rfl⟩
 rw[St.look_set_other _ _ (Ne.symm e)]at hob';obtain⟨hne,ob2,hob2,rfl⟩:=Ju _ _ _ hob';rcases h.heap o ob2 hob2 with⟨O,hB1,hr⟩|⟨h1,hz⟩
 ·exact .inl ⟨O,hφ o O e hB1,hr.kill hφ hI λ_ _=>rfl⟩
 exact .inr ⟨by rw[QP _ e];exact h1,hz.kill⟩
def Stp.sliceT {T d b n l h m e z by_:Nat}{x:Operand}{lo hi:O_ Operand}{rs us:L_ (L_ V)}(ho:o.op=.slice T x lo hi n_)(hd:o.dst=X d)(hn:B_ d C)(hx:Y.opd x=X (.own b n))
  (hb:look Y.hp b=X (.arr z rs)) (hb1:Nat.ble 639 b=f_) (hT:XZ P T=X (e,z,by_)) (hl:Kt Y 0 lo l) (hh:Kt Y n hi h) (h1:l<=h) (h2:h<=n) (hu:(rs.drop l).take (h-l)=us) (hm:h-l=m):Stp P C o Y (Y.app b z d m us):=by
 refine Stp.val λZ a w hr=>?_;subst hu hm;have hb2:b<639:=by
  rcases DX b 639 with h|h
  ·exact h
  rw[Zm h]at hb1;cases hb1
 obtain⟨hu,i,hi',hiz,_⟩:=Jq hT;rcases(hr.opd hx).own_inv with⟨he,rfl⟩|⟨B,hB,hcap,he⟩
 ·have h0:h=0:=by omega
  have l0:l=0:=by omega
  subst h0 l0;refine⟨.slice n_ 0 0,w,Z,?_,?_⟩
  ·simp[execOp,ho,he,Instr.sliceAt,Instr.slice,run_underlying hu,Di hr hl hh (by omega) (by omega:0<=0),sizeOf,typeInfo,hi']
  rw[hd];have:=hr.reset b (.arr z []) ⟨_,hb⟩ (by
   rcases hr.heap b _ hb with⟨B,hB,O⟩|hn
   ·left;obtain⟨e1,e2,e3,cs,E,e4,e5,e6⟩:=O;exact⟨B,hB,e1,Nat.zero_le _,by simp,cs,E,e4,e5,by simp⟩
   exact .inr ⟨hn.1,rfl⟩)
  simpa[St.app] using this.put (Xv hn) (.own0 b)
 have O:=hr.block hB hb;obtain⟨e1,e2,e3,cs,E,e4,e5,e6⟩:=O;by_cases hcl:B.cap=l
 ·
  have hrl:rs.drop l=[]:=List.drop_eq_nil_of_le (by omega);have hhl:h=l:=by omega
  subst hhl;have hcap0:B.cap-h=0:=by omega
  refine⟨.slice (X ⟨B.b,B.off,n_⟩) 0 0,w,ext Z b { B with cap:=0 },?_,?_⟩
  ·simp only[execOp,ho,he,Instr.sliceAt,Instr.slice,run_underlying hu,Di hr hl hh h1 (by omega:h<=B.cap),sizeOf,typeInfo,hi',Xh,Xq,run_program,Xp,Jh,CQ];simp[hcl]
  rw[hd,hrl,Nat.sub_self];simp only[List.take_nil];exact(hr.rebase (B':={ B with cap:=0 }) hB hb2 rfl rfl (.arr z []) ⟨e1,Nat.zero_le _,by simp,cs,E,e4,by simp;omega,by simp⟩).put (Xv hn) (.own b 0 { B with cap:=0 } (Xb _ _ _) (YK _))
 subst e1;let B':QV:={ B with off:=B.off+l*B.z,cap:=B.cap-l };refine⟨.slice (X ⟨B.b,B.off+l*B.z,n_⟩) (h-l) (B.cap-l),w,ext Z b B',?_,?_⟩
 ·simp only[execOp,ho,he,Instr.sliceAt,Instr.slice,run_underlying hu,Di hr hl hh h1 (by omega:h<=B.cap),sizeOf,typeInfo,hi',Xh,Xq,run_program,Xp,Jh,CQ,if_neg hcl,hiz,Addr.add_lit]
 rw[hd];have hmul:l*B.z+(B.cap-l)*B.z=B.cap*B.z:=by rw[<-YS];congr 1;omega
 refine(hr.rebase (B':=B') hB hb2 rfl rfl (.arr B.z ((rs.drop l).take (h-l))) ⟨rfl,by simp[B'];omega,λr hr'=>e3 r (Nr (DV hr')),cs,E,e4,by simp only[B'];omega,λk r hk j v hj=>?_⟩).put (Xv hn) (.own b (h-l) B' (Xb _ _ _) (by simp only[B'];omega));rw[YQ]at hk;split at hk
 ·rw[WP]at hk;obtain⟨y,hy,hD⟩:=e6 (l+k) r hk j v hj;refine⟨y,?_,hD⟩;rw[<-hy];simp only[B'];congr 1;rw[YS];omega
 cases hk
def Qkc (P:Program)(T:TypeId):Bool:=match P.underlying T with|some (.interface _)=>f_|some _=>t_|none=>f_
def Qqm {T:TypeId}(h:Qkc P T=t_):∃D,P.underlying T=X D/\∀m,D≠.interface m:=by
 unfold Qkc at h;split at h
 ·cases h
 ·rename_i D O he;exact⟨D,he,λm e=>O m (by rw[e])⟩
 cases h
def Stp.makeInterface {T d:Nat}{x:Operand}{v:V}(ho:o.op=.makeInterface T x)(hd:o.dst=X d)(hn:B_ d C)(hx:Y.opd x=X v)(hT:Qkc P T=t_):Stp P C o Y (Y.put d (.ifc T v)):=by
 refine Stp.same hd hn λZ a w hr=>⟨.iface T (a.eval x),?_,.ifc T _ _ (hr.opd hx)⟩;obtain⟨D,O,h⟩:=Qqm hT;have:(Instr.makeInterface T (a.eval x)).run P w=.ok (.iface T (a.eval x)) w:=by
  simp only[Instr.makeInterface,Xh,run_underlying O,Xp];cases D<;>first|rfl|exact absurd rfl (h _)
 simp only[execOp,ho,Xh,this,Xp,Xq]
def Stp.typeAssert {T S d:Nat}{x:Operand}{v:V}(ho:o.op=.typeAssert x S T f_)(hd:o.dst=X d)(hn:B_ d C)(hx:Y.opd x=X (.ifc T v))(hT:Qkc P T=t_):Stp P C o Y (Y.put d v):=by
 refine Stp.same hd hn λZ a w hr=>?_;obtain⟨y,he,hy⟩:=(hr.opd hx).ifc_inv;refine⟨y,?_,hy⟩;obtain⟨D,O,h⟩:=Qqm hT;have:(Instr.typeAssert (.iface T y) S T f_).run P w=.ok y w:=by
  simp only[Instr.typeAssert,Xh,run_underlying O,Xp];cases D<;>first|simp|exact absurd rfl (h _)
 simp only[execOp,ho,he,Xh,this,Xp,Xq]
def Stp.nilCheckL {d b i k:Nat}{x:Operand}(ho:o.op=.nilCheck x)(hd:o.dst=X d)(hn:B_ d C)(O:Y.opd x=X (.loc b i k)):Stp P C o Y (Y.put d (.loc b i k)):=by
 refine Stp.same hd hn λZ a w h=>⟨a.eval x,?_,h.opd O⟩;obtain⟨B,hB,he⟩:=(h.opd O).loc_inv;simp[execOp,ho,he]
def Stp.makeFunc {d:Nat}{fn:Fn}{first h:Array Operand}{vs us:L_ V}(ho:o.op=.makeFunc fn first h)(hd:o.dst=X d)(hn:B_ d C)(h1:Y.opsV first.toList=X vs)(h2:Y.opsV h.toList=X us):
  Stp P C o Y (Y.put d (.clo fn vs us)):=by
 refine Stp.same hd hn λZ a w hr=>?_;obtain⟨a1,a2⟩:=hr.opsV _ _ h1;obtain⟨b1,b2⟩:=hr.opsV _ _ h2;refine⟨.func fn (first.map a.eval) (h.map a.eval),by simp[execOp,ho,Instr.makeFunc],.clo fn _ _ _ _ (by simpa using a1) (by simpa using b1) (λj x v O hv=>?_) λj x v O hv=>?_⟩
 ·rw[Array.getElem?_map,Yf]at O;obtain⟨y,hy,rfl⟩:=O;exact a2 j y v (by simpa using hy) hv
 rw[Array.getElem?_map,Yf]at O;obtain⟨y,hy,rfl⟩:=O;exact b2 j y v (by simpa using hy) hv
end
def Cc {κ:Type}(e:κ->V)(l:L_ (κ×L_ (L_ V))):L_ (V×L_ (L_ V)):=l.map λp=>(e p.1,p.2)
def Qqn : ∀(bs:L_ (O_ QV)) (j:Nat) (F:QV),bs[j]? = X (X F)->(bs.filterMap (Option.map QV.b)).Perm (F.b::(bs.set j n_).filterMap (Option.map QV.b)):=by
 intro bs
 induction bs with
 |nil=>intro j F h;simp at h|cons b bs O=>
  intro j F h
  match j with
  |0=>simp at h;subst h;simp|j+1=>
   have:=O j F (by simpa using h);cases b with|none=>simpa using this|some G=>simpa using (this.cons G.b).trans (List.Perm.swap _ _ _)
def QuE (bs:L_ (O_ QV))(j:Nat)(F:QV)(h:bs[j]? = X n_):((bs.set j (X F)).filterMap (Option.map QV.b)).Perm (F.b::bs.filterMap (Option.map QV.b)):=by
 have O:=(QX.1 h).1;have:=Qqn (bs.set j (X F)) j F (by simp[O]);have e:(bs.set j (X F)).set j n_=bs:=by
  rw[List.set_set];apply List.ext_getElem?;intro i;by_cases e:j=i
  ·subst e;rw[h];simp[O]
  rw[SA e]
 rwa[e]at this
section
variable {P:Program}{K:TypeId}{κ:Type}[DecidableEq κ]{e:κ->V}{val:κ->Value}{I:Nat->Prop}{w:World}{B:QV}{l:L_ (κ×L_ (L_ V))}{z:Nat}{out:O_ V}
def QbC (he:∀a b,e a=e b->a=b):((Cc e l).map Prod.fst).Nodup↔(l.map Prod.fst).Nodup:=by
 have:(Cc e l).map Prod.fst=(l.map Prod.fst).map e:=by simp[Cc]
 rw[this];constructor
 ·intro h;exact(Zk.1 h).imp λO e'=>O (by rw[e'])
 intro h;exact Zk.2 (h.imp λO e'=>O (he _ _ e'))
def Qnc (I:Nat->Prop)(w:World)(z:Nat)(e:κ->V)(val:κ->Value)(out:O_ V)(l:L_ (κ×L_ (L_ V)))(x:MapEntry)(E:O_ QV):Prop:=
 ∃q∈l,x.key=val q.1/\((∃F,E=X F/\F.more=[]/\out≠X (e q.1)/\Yc I w F z q.2/\x.val=.slice (X ⟨F.b,F.off,n_⟩) q.2.length F.cap)\/(E=n_/\out=X (e q.1)))
def KP.find (hk:Dh P K e val){D:TypeDesc}(hD:P.underlying K=X D)(h:KP I w B z (Cc e l) out)(k:κ):∃(es:Array MapEntry) (O:Nat) (bs:L_ (O_ QV)),w.heap[B.b]? = X (.map es O)/\MapKept.Stamped es O/\(l.map Prod.fst).Nodup/\
  es.size=l.length/\bs.length=l.length/\B.more=bs.filterMap (Option.map QV.b)/\(B.b::B.more).Nodup/\MapKept.IsKey D (val k)/\
  (∀(i:Nat) x E,es[i]? = X x->bs[i]? = X E->Qnc I w z e val out l x E)/\(∀q∈l,∃(i:Nat) (x:MapEntry),es[i]? = X x/\x.key=val q.1)/\
  ((Qy l k=n_/\Instr.findNow D (val k) es.toList 0=X n_/\∀x∈es.toList,x.key≠val k)\/
   ∃j x E rs,Qy l k=X rs/\Instr.findNow D (val k) es.toList 0=X (X (j,x.val))/\es[j]? = X x/\bs[j]? = X E/\x.key=val k/\∀i y,es[i]? = X y->y.key=val k->i=j):=by
 obtain⟨es,O,h1,h2,h3,h4,bs,h5,h6,h7,h8,h9⟩:=h;obtain⟨D',hD',hK⟩:=hk.d;rw[hD]at hD';cases hD';have hn:=(QbC hk.einj).1 h3;have hl:(Cc e l).length=l.length:=by simp[Cc]
 have hrow:∀(i:Nat) x E,es[i]? = X x->bs[i]? = X E->Qnc I w z e val out l x E:=λi x E hi hE=>by
  obtain⟨p,hp,a1,a2⟩:=h8 i x E hi hE;obtain⟨q,hq,rfl⟩:=Ye.1 hp;exact⟨q,hq,hk.inv _ _ _ _ a1,a2⟩
 have hbs:∀i x,es[i]? = X x->∃E,bs[i]? = X E:=λi x hi=>by
  have hlt:i<bs.length:=by rw[h5,<-h4];exact(Em.1 hi).1
  exact⟨_,QI hlt⟩
 have hks:∀x∈es.toList,MapKept.IsKey D x.key:=λx hx=>by
  obtain⟨i,hi⟩:=GD.1 hx;rw[Sv]at hi;obtain⟨E,hE⟩:=hbs i x hi;obtain⟨q,_,e1,_⟩:=hrow i x E hi hE;rw[e1];exact hK _
 refine⟨es,O,bs,h1,h2,hn,by rw[h4,hl],by rw[h5,hl],h6,h7,hK k,hrow,λq hq=>?_,?_⟩
 ·obtain⟨i,x,hi,a1⟩:=h9 _ (Ye.2 ⟨q,hq,rfl⟩);exact⟨i,x,hi,hk.inv _ _ _ _ a1⟩
 rcases MapKept.findNow_spec (hK k) es.toList 0 hks with⟨g1,g2⟩|⟨j,x,g1,g2,g3⟩
 ·refine .inl ⟨?_,g1,g2⟩;cases hg:Qy l k with
  |none=>rfl|some rs=>
   obtain⟨i,x,hi,a1⟩:=h9 (e k,rs) (Ye.2 ⟨(k,rs),Qg1 hg,rfl⟩);exact absurd (hk.inv _ _ _ _ a1) (g2 x (GD.2 ⟨i,by rw[Sv];exact hi⟩))
 have g2':es[j]? = X x:=by simpa using g2
 obtain⟨E,hE⟩:=hbs j x g2';obtain⟨⟨a,rs⟩,hm,e1,_⟩:=hrow j x E g2' hE;have:a=k:=hk.inj _ _ (by rw[<-e1,g3]);subst this;refine .inr ⟨j,x,E,rs,Pi hn hm,by simpa using g1,g2',hE,g3,λi y hy hyk=>?_⟩;have i1:(es.toList.map (·.key))[i]? = X (val a):=by simp[Ya,hy,hyk]
 have i2:(es.toList.map (·.key))[j]? = X (val a):=by simp[Ya,g2',g3]
 exact(List.getElem?_inj (by simpa using (Em.1 hy).1) h2.2.2).1 (i1.trans i2.symm)
def KP.of (hk:Dh P K e val){es:Array MapEntry}{h:Nat}{bs:L_ (O_ QV)}(h1:w.heap[B.b]? = X (.map es h))(h2:MapKept.Stamped es h)(h3:(l.map Prod.fst).Nodup)(h4:es.size=l.length)
  (h5:bs.length=l.length) (h6:B.more=bs.filterMap (Option.map QV.b)) (h7:(B.b::B.more).Nodup) (h8:∀(i:Nat) x E,es[i]? = X x->bs[i]? = X E->Qnc I w z e val out l x E)
  (h9:∀q∈l,∃(i:Nat) (x:MapEntry),es[i]? = X x/\x.key=val q.1):KP I w B z (Cc e l) out:=by
 have hl:(Cc e l).length=l.length:=by simp[Cc]
 refine⟨es,h,h1,h2,(QbC hk.einj).2 h3,by rw[h4,hl],bs,by rw[h5,hl],h6,h7,λi x E hi hE=>?_,λp hp=>?_⟩
 ·obtain⟨q,hq,O,a2⟩:=h8 i x E hi hE;exact⟨_,Ye.2 ⟨q,hq,rfl⟩,by rw[O];exact hk.dat _ _ _,a2⟩
 obtain⟨q,hq,rfl⟩:=Ye.1 hp;obtain⟨i,x,hi,O⟩:=h9 q hq;exact⟨i,x,hi,by rw[O];exact hk.dat _ _ _⟩
end
def QR.heads {Z φ':Nat->O_ QV}{I I':Nat->Prop}{w w':World}(hφ:∀o B,Z o=X B->∃B',φ' o=X B'/\B'.b=B.b/\B'.cap=B.cap/\B'.z=B.z/\B'.off=B.off)(hI:∀k,I k->I' k/\w'.heap[k]? = w.heap[k]?)
  {x:Value} {v:V} (h:QR Z I w x v):QR φ' I' w' x v:=by
 induction h with
 |dat d=>exact .dat (d.mono hI)|own0 p=>exact .own0 p|own p n B1 O hn=>
  obtain⟨B',h2,e1,e2,_,e4⟩:=hφ p B1 O;have:=QR.own (Z:=φ') (I:=I') (w:=w') p n B' h2 (by rw[e2];exact hn);rwa[e1,e2,e4]at this
 |tl0 p k c a=>exact .tl0 p k c a|tl p k n c B1 O=>
  obtain⟨B',h2,e1,_,e3,e4⟩:=hφ p B1 O;have:=QR.tl (Z:=φ') (I:=I') (w:=w') p k n c B' h2;rwa[e1,e4]at this
 |loc p i d B1 O=>
  obtain⟨B',h2,e1,_,e3,e4⟩:=hφ p B1 O;have:=QR.loc (Z:=φ') (I:=I') (w:=w') p i d B' h2;rwa[e1,e3,e4]at this
 |map p B1 O=>
  obtain⟨B',h2,e1,_,_⟩:=hφ p B1 O;have:=QR.map (Z:=φ') (I:=I') (w:=w') p B' h2;rwa[e1]at this
 |agg xs cs hs _ ih=>exact .agg xs cs hs ih|tup xs cs hs _ ih=>exact .tup xs cs hs ih|ifc t x v _ ih=>exact .ifc t x v ih|clo fn xs ys vs us O h2 _ _ ih1 ih2=>exact .clo fn xs ys vs us O h2 ih1 ih2
def Jg.heads {Z φ':Nat->O_ QV}{I I':Nat->Prop}{w w':World}(hφ:∀o B,Z o=X B->∃B',φ' o=X B'/\B'.b=B.b/\B'.cap=B.cap/\B'.z=B.z/\B'.off=B.off)(O:∀k,I k->I' k/\w'.heap[k]? = w.heap[k]?)
  {B:QV} (h:∀k,B.has k->w'.heap[k]? = w.heap[k]?) {ob:Ob} (d:Jg Z I w B ob):Jg φ' I' w' B ob:=by
 cases ob with
 |var vs=>
  obtain⟨cs,E,h1,h2,h0,h3⟩:=d;exact⟨cs,E,(h _ B.self).trans h1,h2,h0,λj x v hx hv=>(h3 j x v hx hv).heads hφ O⟩
 |lp l K vs q=>
  obtain⟨tmps,D,rfl,h1,h2,h3,h4⟩:=d;exact⟨tmps,D,rfl,h1,(h _ B.self).trans h2,h3,λj x v hx hv=>(h4 j x v hx hv).heads hφ O⟩
 |arr z rs=>exact Yc.mono O (h _ B.self) d|map l=>exact Dz.mono O (h _ B.self) d|grp z l lk=>exact KP.mono O h d|mapX bm clock L l=>exact EI.mono O (h _ B.self) d|itr bm since seen cur=>exact ZC.mono (h _ B.self) d|itr0=>obtain⟨s,c,h1⟩:=d;exact⟨s,c,(h _ B.self).trans h1.1,h1.2⟩
 |tbl A z rs=>exact En.mono O h d|nst x v=>exact ZD.mono h d|scr D H=>exact ZE.mono h d
section
variable {P:Program}{C:Xs}{Y:St}{o:Oper}{Z:Nat->O_ QV}{a:Act}{w:World}{ops:Array Oper}{c:Code}{Q:Exit->St->Prop}
def Qcd {b:Nat}(hp:Nat.ble 635 b=f_):b<635:=by
 rcases DX b 635 with h|h
 ·exact h
 rw[Zm h]at hp;cases hp
def Stp.makeGrp {T d:Nat}(z:Nat)(ho:o.op=.makeMap T n_)(O:o.dst=X d)(h:B_ d C)(hf:look Y.hp d=n_):Stp P C o Y ((Y.set d (.grp z [] n_)).put d (.map d)):=by
 refine Stp.val λZ a w hr=>?_;refine⟨.map (X w.heap.size),w.alloc (.map #[] 0),ext Z d ⟨w.heap.size,0,0,[],0⟩,?_,?_⟩
 ·simp[execOp,ho,Instr.makeMap]
 rw[O];refine(hr.alloc (cap:=0) (z:=0) hf (C.slot h) (ob:=.grp z [] n_) (obj:=.map #[] 0) ⟨#[],0,heap_alloc_new w _,MapKept.stamped_empty 0,by simp,rfl,[],rfl,rfl,by simp,by simp,by simp⟩).put (Xv h) ?_;exact .map d ⟨w.heap.size,0,0,[],0⟩ (Xb _ _ _)
def RR.say' (h:RR C Z Y a w){b:Nat}{ob ob':Ob}(hb:look Y.hp b=X ob)(hs:∀B,Z b=X B->Jg Z (Xc C Z w) w B ob->Jg Z (Xc C Z w) w B ob')(hne:¬ob.Nil):RR C Z (Y.set b ob') a w:=by
 refine⟨h.os,h.tape,h.output,h.size,h.kept,h.inj,λo B hB=>?_,h.lt,h.new,h.stay.set hb,h.tmps,h.defers,h.frame,λo ob2 O=>?_⟩
 ·by_cases e:o=b
  ·subst e;exact⟨_,Y.look_set_same _ _⟩
  obtain⟨ob,h1⟩:=h.dom o B hB;exact⟨ob,by rw[Y.look_set_other _ (Ne.symm e)];exact h1⟩
 by_cases e:o=b
 ·subst e;rw[Y.look_set_same]at O;cases O;rcases h.heap o _ hb with⟨B,hB,hr⟩|⟨_,h2⟩
  ·exact .inl ⟨B,hB,hs B hB hr⟩
  exact absurd h2 hne
 rw[Y.look_set_other _ (Ne.symm e)]at O;exact h.heap o ob2 O
def RR.repart (h:RR C Z Y a w){φ':Nat->O_ QV}{σ':St}{w':World}{b d:Nat}(hb:b<635)(hd:d<635)(ho:w'.os=w.os)(ht:w'.tape=w.tape)(hu:w'.output=w.output)(hs:w'.heap.size=w.heap.size)
  (hk:∀k,(∀B,Z b=X B->k≠B.b)->w'.heap[k]? = w.heap[k]?) (hot:∀o,o≠b->o≠d->φ' o=Z o)
  (hun:∀B' k,φ' b=X B'\/φ' d=X B'->B'.has k->∃B,(Z b=X B\/Z d=X B)/\B.has k)
  (hdis:∀Bb Bd k,φ' b=X Bb->φ' d=X Bd->Bb.has k->Bd.has k->b=d)
  (hdom:∀o B,φ' o=X B->∃ob,look σ'.hp o=X ob)
  (hpk:∀o ob,639<=o->look σ'.hp o=X ob->∃ob',look Y.hp o=X ob')
  (hfr:(∀k,Xc C Z w k->Xc C φ' w' k/\w'.heap[k]? = w.heap[k]?)->∀t v,look σ'.fr t=X v->∃x,a.tmps[t]? = X x/\QR φ' (Xc C φ' w') w' x v)
  (hhp:(∀k,Xc C Z w k->Xc C φ' w' k/\w'.heap[k]? = w.heap[k]?)->(∀o B k,o≠b->Z o=X B->B.has k->w'.heap[k]? = w.heap[k]?)->∀o ob,look σ'.hp o=X ob->(∃B,φ' o=X B/\Jg φ' (Xc C φ' w') w' B ob)\/(φ' o=n_/\ob.Nil)):
  RR C φ' σ' a w':=by
 have own:∀o B' k,φ' o=X B'->B'.has k->∃o1 B,Z o1=X B/\B.has k/\((o1=o/\o≠b/\o≠d)\/((o=b\/o=d)/\(o1=b\/o1=d))):=λo B' k O h2=>by
  by_cases e1:o=b
  ·subst e1;obtain⟨B,h3|h3,h4⟩:=hun B' k (.inl O) h2
   ·exact⟨_,B,h3,h4,.inr ⟨.inl rfl,.inl rfl⟩⟩
   exact⟨_,B,h3,h4,.inr ⟨.inl rfl,.inr rfl⟩⟩
  by_cases e2:o=d
  ·subst e2;obtain⟨B,h3|h3,h4⟩:=hun B' k (.inr O) h2
   ·exact⟨_,B,h3,h4,.inr ⟨.inr rfl,.inl rfl⟩⟩
   exact⟨_,B,h3,h4,.inr ⟨.inr rfl,.inr rfl⟩⟩
  rw[hot o e1 e2]at O;exact⟨o,B',O,h2,.inl ⟨rfl,e1,e2⟩⟩
 have hI:∀k,Xc C Z w k->Xc C φ' w' k/\w'.heap[k]? = w.heap[k]? := λk hk'=>by
  refine⟨⟨by rw[hs];exact hk'.1,hk'.2.1,λo B' O h2=>?_⟩,hk k λB hB e=>hk'.2.2 b B hB (.inl e)⟩;obtain⟨o1,B,h3,h4,_⟩:=own o B' k O h2;exact hk'.2.2 o1 B h3 h4
 have hoth:∀o B k,o≠b->Z o=X B->B.has k->w'.heap[k]? = w.heap[k]? := λo B k hne O h2=>hk k λB2 hB2 e=>hne (h.inj o b B B2 k O hB2 h2 (.inl e));refine⟨ho.trans h.os,ht.trans h.tape,hu.trans h.output,by rw[hs];exact h.size,λk O h2=>?_,λo o' B B' k O h2 h3 h4=>?_,hdom,λo B k O h2=>?_,λo B k O h2 h3=>?_,⟨λo B O h2=>?_,λo ob B O h2 h3=>by rw[hot o (by omega) (by omega)];obtain⟨ob',h4⟩:=hpk o ob O h2;exact h.stay.2 o ob' B O h4 h3⟩,h.tmps,h.defers.mono hI,hfr hI,hhp hI hoth⟩
 ·refine(hk k λB hB e=>h2 ((h.lt b B k hB (.inl e)).2 O)).trans (h.kept k O h2)
 ·obtain⟨o1,B1,g1,g2,g3⟩:=own o B k O h3;obtain⟨o2,B2,g4,g5,g6⟩:=own o' B' k h2 h4;have e:=h.inj o1 o2 B1 B2 k g1 g4 g2 g5;rcases g3 with⟨e1,n1,n2⟩|⟨e1,e2⟩<;>rcases g6 with⟨e3,n3,n4⟩|⟨e3,e4⟩
  ·rw[<-e1,<-e3,e]
  ·rcases e4 with e4|e4<;>simp_all
  ·rcases e2 with e2|e2<;>simp_all
  rcases e1 with rfl|rfl<;>rcases e3 with rfl|rfl
  ·rfl
  ·exact hdis _ _ k O h2 h3 h4
  ·exact(hdis _ _ k h2 O h4 h3).symm
  rfl
 ·obtain⟨o1,B1,g1,g2,_⟩:=own o B k O h2;have:=h.lt o1 B1 k g1 g2;exact⟨by rw[hs];exact this.1,this.2⟩
 ·obtain⟨o1,B1,g1,g2,g3⟩:=own o B k O h2;refine h.new o1 B1 k g1 g2 ?_;rcases g3 with⟨e1,_⟩|⟨_,e1|e1⟩<;>omega
 rw[hot o (by omega) (by omega)]at h2;exact h.stay.1 o B O h2
def Qo8 (P:Program)(T:TypeId):Bool:=match P.info? T with
 |some i=>match i.zero with|some (.slice n_ 0 0)=>t_|_=>f_
 |none=>f_
def QrQ {T:TypeId}(h:Qo8 P T=t_):∃i,P.info? T=X i/\i.zero=X (.slice n_ 0 0):=by
 unfold Qo8 at h;split at h
 ·rename_i i hi;split at h
  ·rename_i O;exact⟨i,hi,O⟩
  cases h
 cases h
def Ig.sl {T:TypeId}{z:Nat}(h:Qo8 P T=t_):Ig P T (.sl z []):=let ⟨i,h1,h2⟩:=QrQ h;⟨i,_,h1,h2,λ_ _=>.sl0 _ _ _⟩
def Ig.one {T:TypeId}{v:Value}(hi:((P.info? T).bind (·.zero))=X v):Ig P T (Bh v):=by
 obtain⟨i,h,O⟩:=Pg.1 hi;exact⟨i,v,h,O,λ_ _=>XJ.const v⟩
def Stp.lookupOut {T d b K E z n:Nat}{x y:Operand}{κ:Type}[DecidableEq κ]{e:κ->V}{val:κ->Value}{l:L_ (κ×L_ (L_ V))}{k:κ}{rows:L_ (L_ V)}(ho:o.op=.lookup T x y f_)(hd:o.dst=X d)
  (hn:B_ d C) (hx:Y.opd x=X (.map b)) (hb:look Y.hp b=X (.grp z (Cc e l) n_)) (hy:Y.opd y=X (e k)) (hT:IZ P T=X (K,E)) (hk:Dh P K e val)
  (hz:Qo8 P E=t_) (hpb:Nat.ble 635 b=f_) (hpd:Nat.ble 635 d=f_) (hbd:Nat.beq b d=f_) (hrs:(Qy l k).getD []=rows) (hln:rows.length=n):
  Stp P C o Y ((((Y.kill d).set b (.grp z (Cc e l) (X (e k)))).set d (.arr z rows)).put d (.own d n)):=by
 refine Stp.val λZ a w hr=>?_;obtain⟨B,hB,he⟩:=(hr.opd hx).map_inv;have hyv:a.eval y=val k:=hk.inv _ _ _ _ ((hr.opd hy).toDat (hk.edat k));obtain⟨D,hD,_⟩:=hk.d;replace hbd:b≠d:=Eo (by rw[hbd];rfl);replace hr:=hr.kill d;replace hb:look (Y.kill d).hp b=X (.grp z (Cc e l) n_):=Kj _ _ _ hbd hb;replace hB:Ga Z d b=X B:=by rw[Wj hbd];exact hB
 have hfd:Ga Z d d=n_:=Vp _ _;generalize Ga Z d=Z at *;generalize Y.kill d=Y at *;have hlb:=Qcd hpb;have hld:=Qcd hpd;obtain⟨es,clock,bs,h1,h2,h3,h4,h5,h6,h7,h8,hrow,hall,hcase⟩:=KP.find hk hD (hr.block hB hb) k;obtain⟨i,hi,hzx⟩:=QrQ hz;have others:∀{φ':Nat->O_ QV},(∀o B,Z o=X B->∃B',φ' o=X B'/\B'.b=B.b/\B'.cap=B.cap/\B'.z=B.z/\B'.off=B.off)->(∀o,o≠b->o≠d->φ' o=Z o)->(∀k,Xc C Z w k->Xc C φ' w k/\w.heap[k]? = w.heap[k]?)->
   ∀o ob,o≠b->o≠d->look Y.hp o=X ob->(∃B,φ' o=X B/\Jg φ' (Xc C φ' w) w B ob)\/(φ' o=n_/\ob.Nil):=λhh hot hI o ob n1 n2 O=>by
  rcases hr.heap o ob O with⟨B1,g1,g2⟩|⟨g1,g2⟩
  ·exact .inl ⟨B1,by rw[hot o n1 n2];exact g1,g2.heads hh hI λ_ _=>rfl⟩
  exact .inr ⟨by rw[hot o n1 n2];exact g1,g2⟩
 rcases hcase with⟨g1,g2,g3⟩|⟨j,xx,E0,rs,g1,g2,g3,g4,g5,g6⟩
 ·rw[g1]at hrs;simp only[Option.getD_none]at hrs;subst hrs;subst hln;refine⟨.slice n_ 0 0,w,Z,?_,?_⟩
  ·simp[execOp,ho,he,hyv,Instr.lookup,run_underlying (EZ hT),MapKept.run_getObj_map h1,MapKept.run_checkKey hD h8,MapKept.run_findKey hD g2,zeroValue,typeInfo,hi,hzx]
  rw[hd];have hh:∀o B,Z o=X B->∃B',Z o=X B'/\B'.b=B.b/\B'.cap=B.cap/\B'.z=B.z/\B'.off=B.off:=λo B h=>⟨B,h,rfl,rfl,rfl,rfl⟩;refine RR.put ?_ (Xv hn) (.own0 d);refine hr.repart hlb hld rfl rfl rfl rfl (λ_ _=>rfl) (λ_ _ _=>rfl) (λB' k h1 h2=>⟨B',h1,h2⟩) (λBb Bd k u1 u2=>by rw[hfd]at u2;cases u2) (λo B hB'=>?_) (λo ob hge ho=>⟨ob,by rwa[St.look_set_other _ _ (by omega),St.look_set_other _ _ (by omega)]at ho⟩) (λhI t v hv=>?_) (λhI hoth o ob O=>?_)
  ·by_cases e1:o=d
   ·subst e1;exact⟨_,St.look_set_same _ _ _⟩
   by_cases e2:o=b
   ·subst e2;exact⟨_,by rw[St.look_set_other _ _ (Ne.symm e1)];exact St.look_set_same _ _ _⟩
   obtain⟨ob,h'⟩:=hr.dom o B hB';exact⟨ob,by rw[St.look_set_other _ _ (Ne.symm e1),St.look_set_other _ _ (Ne.symm e2)];exact h'⟩
  ·obtain⟨x,hx,hrp⟩:=hr.frame t v hv;exact⟨x,hx,hrp.heads hh hI⟩
  by_cases e1:o=d
  ·subst e1;rw[St.look_set_same]at O;cases O;exact .inr ⟨hfd,rfl⟩
  rw[St.look_set_other _ _ (Ne.symm e1)]at O;by_cases e2:o=b
  ·subst e2;rw[St.look_set_same]at O;cases O;refine .inl ⟨B,hB,KP.of hk h1 h2 h3 h4 h5 h6 h7 (λi x E hi hE=>?_) hall⟩;obtain⟨q,hq,a1,⟨F,a2,a3,a4,a5,a6⟩|⟨_,a3⟩⟩:=hrow i x E hi hE
   ·refine⟨q,hq,a1,.inl ⟨F,a2,a3,λe'=>?_,a5,a6⟩⟩;have:=hk.einj _ _ (Option.some.inj e');exact g3 x (GD.2 ⟨i,by rw[Sv];exact hi⟩) (by rw[a1,this])
   cases a3
  rw[St.look_set_other _ _ (Ne.symm e2)]at O;exact others hh (λ_ _ _=>rfl) hI o ob e2 e1 O
 rw[g1]at hrs;simp only[GG]at hrs;subst hrs;obtain⟨⟨a,rs'⟩,hq,a1,⟨F,rfl,a3,a4,a5,a6⟩|⟨_,a3⟩⟩:=hrow j xx E0 g3 g4
 case inr=>cases a3
 have:a=k:=hk.inj _ _ (by rw[<-a1,g5]);subst this;have m1:=Pi h3 hq;rw[g1]at m1;cases m1;subst hln;have hperm:=Qqn bs j F g4;have hjlt:j<bs.length:=(QX.1 g4).1;have hnd:(B.b::F.b::(bs.set j n_).filterMap (Option.map QV.b)).Nodup:=by rw[h6]at h7;exact(hperm.cons B.b).nodup_iff.1 h7
 have hnd':B.b≠F.b/\B.b ∉ (bs.set j n_).filterMap (Option.map QV.b)/\F.b ∉ (bs.set j n_).filterMap (Option.map QV.b)/\((bs.set j n_).filterMap (Option.map QV.b)).Nodup:=by
  simp only[Uv,Yw,not_or]at hnd;exact⟨hnd.1.1,hnd.1.2,hnd.2.1,hnd.2.2⟩
 let B':QV:=⟨B.b,B.cap,B.z,(bs.set j n_).filterMap (Option.map QV.b),B.off⟩;let φ':=ext (ext Z b B') d F;have pb:φ' b=X B':=by show ext (ext Z b B') d F b=_;rw[QP _ hbd,Xb]
 have pd:φ' d=X F:=Xb _ _ _;have hot:∀o,o≠b->o≠d->φ' o=Z o:=λo n1 n2=>by show ext (ext Z b B') d F o=_;rw[QP _ n2,QP _ n1]
 have hh:∀o B,Z o=X B->∃B',φ' o=X B'/\B'.b=B.b/\B'.cap=B.cap/\B'.z=B.z/\B'.off=B.off:=λo B1 h=>by
  by_cases e1:o=b
  ·subst e1;rw[hB]at h;cases h;exact⟨B',pb,rfl,rfl,rfl,rfl⟩
  have e2:o≠d:=λe'=>by subst e';rw[hfd]at h;cases h
  exact⟨B1,by rw[hot o e1 e2];exact h,rfl,rfl,rfl,rfl⟩
 have hFin:B.has F.b:=.inr (by rw[h6];exact QgS g4);refine⟨xx.val,w,φ',?_,?_⟩
 ·simp[execOp,ho,he,hyv,Instr.lookup,run_underlying (EZ hT),MapKept.run_getObj_map h1,MapKept.run_checkKey hD h8,MapKept.run_findKey hD g2]
 rw[hd,a6];refine RR.put ?_ (Xv hn) (.own d _ F pd a5.2.1);refine hr.repart hlb hld rfl rfl rfl rfl (λ_ _=>rfl) hot (λB1 k u1 u2=>?_) (λBb Bd k u1 u2 u3 u4=>?_) (λo B1 hB'=>?_) (λo ob hge ho=>⟨ob,by rwa[St.look_set_other _ _ (by omega),St.look_set_other _ _ (by omega)]at ho⟩) (λhI t v hv=>?_) (λhI hoth o ob O=>?_)
 ·refine⟨B,.inl hB,?_⟩;rcases u1 with u1|u1
  ·rw[pb]at u1;cases u1;rcases u2 with u2|u2
   ·exact .inl u2
   exact .inr (by rw[h6];exact hperm.mem_iff.2 (Yq _ u2))
  rw[pd]at u1;cases u1;rcases u2 with u2|u2
  ·rw[u2];exact hFin
  rw[a3]at u2;cases u2
 ·rw[pb]at u1;cases u1;rw[pd]at u2;cases u2;exfalso;have e1:k=F.b:=by
   rcases u4 with u4|u4
   ·exact u4
   rw[a3]at u4;cases u4
  subst e1;rcases u3 with u3|u3
  ·exact hnd'.1 u3.symm
  exact hnd'.2.2.1 u3
 ·by_cases e1:o=d
  ·subst e1;exact⟨_,St.look_set_same _ _ _⟩
  by_cases e2:o=b
  ·subst e2;exact⟨_,by rw[St.look_set_other _ _ (Ne.symm e1)];exact St.look_set_same _ _ _⟩
  rw[hot o e2 e1]at hB';obtain⟨ob,h'⟩:=hr.dom o B1 hB';exact⟨ob,by rw[St.look_set_other _ _ (Ne.symm e1),St.look_set_other _ _ (Ne.symm e2)];exact h'⟩
 ·obtain⟨x,hx,hrp⟩:=hr.frame t v hv;exact⟨x,hx,hrp.heads hh hI⟩
 by_cases e1:o=d
 ·subst e1;rw[St.look_set_same]at O;cases O;exact .inl ⟨F,pd,Yc.mono hI rfl a5⟩
 rw[St.look_set_other _ _ (Ne.symm e1)]at O;by_cases e2:o=b
 ·subst e2;rw[St.look_set_same]at O;cases O;refine .inl ⟨B',pb,KP.of (bs:=bs.set j n_) hk h1 h2 h3 h4 (by rw[List.length_set];exact h5) rfl (Uv.2 ⟨hnd'.2.1,hnd'.2.2.2⟩) (λi x E hi hE=>?_) hall⟩;by_cases e3:j=i
  ·subst e3;rw[Qbx hjlt]at hE;cases hE;rw[g3]at hi;cases hi;exact⟨(a,rs),hq,a1,.inr ⟨rfl,rfl⟩⟩
  rw[SA e3]at hE;obtain⟨q,hq',c1,⟨G,c2,c3,c4,c5,c6⟩|⟨_,c3⟩⟩:=hrow i x E hi hE
  ·refine⟨q,hq',c1,.inl ⟨G,c2,c3,λe'=>?_,Yc.mono hI rfl c5,c6⟩⟩;have:=hk.einj _ _ (Option.some.inj e');exact e3 (g6 i x hi (by rw[c1,this])).symm
  cases c3
 rw[St.look_set_other _ _ (Ne.symm e2)]at O;exact others hh hot hI o ob e2 e1 O
def Stp.updateBack {T d b K E z n:Nat}{x y u:Operand}{κ:Type}[DecidableEq κ]{e:κ->V}{val:κ->Value}{l:L_ (κ×L_ (L_ V))}{k:κ}{rows:L_ (L_ V)}(lt:κ->κ->Bool)(ho:o.op=.mapUpdate T x y u)(hd:o.dst=n_)
  (hx:Y.opd x=X (.map b)) (hb:look Y.hp b=X (.grp z (Cc e l) (X (e k)))) (hy:Y.opd y=X (e k)) (hu:Y.opd u=X (.own d n)) (hdd:look Y.hp d=X (.arr z rows)) (hT:IZ P T=X (K,E)) (hk:Dh P K e val)
  (hpb:Nat.ble 635 b=f_) (hpd:Nat.ble 635 d=f_) (hbd:Nat.beq b d=f_) (hln:n=rows.length) (hne:rows≠[]):
  Stp P C o Y ((Y.kill d).set b (.grp z (Cc e (XF lt l k rows)) n_)):=by
 have hord:(Y.kill d).set b (.grp z (Cc e (XF lt l k rows)) n_)=(Y.set b (.grp z (Cc e (XF lt l k rows)) n_)).kill d:=by simp[St.kill,St.set,Ep,hbd,Ob.kill]
 rw[hord];refine Stp.skp λZ a w hr=>?_;obtain⟨B,hB,he⟩:=(hr.opd hx).map_inv;have hyv:a.eval y=val k:=hk.inv _ _ _ _ ((hr.opd hy).toDat (hk.edat k));obtain⟨D,hD,_⟩:=hk.d;replace hbd:b≠d:=Eo (by rw[hbd];rfl);have hlb:=Qcd hpb;have hld:=Qcd hpd;obtain⟨es,clock,bs,h1,h2,h3,h4,h5,h6,h7,h8,hrow,hall,hcase⟩:=KP.find hk hD (hr.block hB hb) k;have hlt:B.b<w.heap.size:=(hr.lt b B _ hB B.self).1;subst hln;rcases(hr.opd hu).own_inv with⟨_,h0⟩|⟨E1,hE1,hcap,huv⟩
 ·exact absurd (Np.1 h0) hne
 have harr:=hr.block hE1 hdd;let F:QV:=⟨E1.b,E1.cap,E1.z,[],E1.off⟩;have hFB:∀k,B.has k->k≠F.b:=λk hk' e'=>hbd (hr.inj b d B E1 k hB hE1 hk' (.inl e'));have write:∀(es2:Array MapEntry) (clock2:Nat) (bs2:L_ (O_ QV)) (l2:L_ (κ×L_ (L_ V))),MapKept.Stamped es2 clock2->(l2.map Prod.fst).Nodup->es2.size=l2.length->bs2.length=l2.length->
   (bs2.filterMap (Option.map QV.b)).Perm (F.b::B.more)->(∀(i:Nat) x E,es2[i]? = X x->bs2[i]? = X E->Qnc (Xc C Z w) w z e val n_ l2 x E)->(∀q∈l2,∃(i:Nat) (x:MapEntry),es2[i]? = X x/\x.key=val q.1)->
   ∃φ',RR C φ' ((Y.set b (.grp z (Cc e l2) n_)).kill d) a { w with heap:=w.heap.setIfInBounds B.b (.map es2 clock2) }:=by
  intro es2 clock2 bs2 l2 s1 s2 s3 s4 s5 s6 s7;let B':QV:=⟨B.b,B.cap,B.z,bs2.filterMap (Option.map QV.b),B.off⟩;let φ1:=Ga Z d;let φ':=ext φ1 b B';have pb:φ' b=X B':=Xb _ _ _;have pd:φ' d=n_:=by show ext (Ga Z d) b B' d=_;rw[QP _ (Ne.symm hbd),Vp]
  have hot:∀o,o≠b->o≠d->φ' o=Z o:=λo n1 n2=>by show ext (Ga Z d) b B' o=_;rw[QP _ n1,Wj n2]
  have hφ1:∀o B,o≠d->Z o=X B->φ1 o=X B:=λo B n h=>by show Ga Z d o=_;rw[Wj n];exact h
  have hh:∀o B,φ1 o=X B->∃B',φ' o=X B'/\B'.b=B.b/\B'.cap=B.cap/\B'.z=B.z/\B'.off=B.off:=λo B1 h=>by
   obtain⟨n1,h⟩:=Kk h;by_cases e1:o=b
   ·subst e1;rw[hB]at h;cases h;exact⟨B',pb,rfl,rfl,rfl,rfl⟩
   exact⟨B1,by rw[hot o e1 n1];exact h,rfl,rfl,rfl,rfl⟩
  have O:∀k,k∈bs2.filterMap (Option.map QV.b)↔k=F.b\/k∈B.more:=λk=>by rw[s5.mem_iff,Yw]
  refine⟨φ',hr.repart hlb hld rfl rfl rfl (by simp) (λk hk'=>GH _ (hk' B hB)) hot (λB1 k u1 u2=>?_) (λBb Bd k u1 u2=>by rw[pd]at u2;cases u2) (λo B1 hB1=>?_) (λo ob hge ho=>by obtain⟨_,ob',h',_⟩:=Ju _ _ _ ho;exact⟨ob',by rwa[St.look_set_other _ _ (by omega)]at h'⟩) (λhI t v hv=>?_) (λhI hoth o ob hob=>?_)⟩
  ·rcases u1 with u1|u1
   ·rw[pb]at u1;cases u1;rcases u2 with u2|u2
    ·exact⟨B,.inl hB,.inl u2⟩
    rcases(O k).1 u2 with u2|u2
    ·exact⟨E1,.inr hE1,.inl u2⟩
    exact⟨B,.inl hB,.inr u2⟩
   rw[pd]at u1;cases u1
  ·have n1:o≠d:=λe'=>by subst e';rw[pd]at hB1;cases hB1
   by_cases e1:o=b
   ·subst e1;exact⟨_,Kj _ _ _ n1 (St.look_set_same _ _ _)⟩
   rw[hot o e1 n1]at hB1;obtain⟨ob,h'⟩:=hr.dom o B1 hB1;exact⟨_,Kj _ _ _ n1 (by rw[St.look_set_other _ _ (Ne.symm e1)];exact h')⟩
  ·obtain⟨v',hv',rfl⟩:=IU _ _ _ hv;obtain⟨x,hx,hrp⟩:=hr.frame t v' hv';exact⟨x,hx,((hrp.kill (φ':=φ1) (I':=Xc C Z w) (w':=w) hφ1 λk hk=>⟨hk,rfl⟩).heads hh hI)⟩
  obtain⟨n1,ob',hob',rfl⟩:=Ju _ _ _ hob;by_cases e1:o=b
  ·subst e1;rw[St.look_set_same]at hob';cases hob';refine .inl ⟨B',pb,KP.of hk (by simp[B',hlt]) s1 s2 s3 s4 rfl ?_ (λi x E hi hE=>?_) s7⟩
   ·have h9:(B.b::F.b::B.more).Nodup:=by
     rw[Uv]at h7;refine Uv.2 ⟨λh=>?_,Uv.2 ⟨λh=>hFB _ (.inr h) rfl,h7.2⟩⟩;rcases Yw.1 h with h|h
     ·exact hFB _ B.self h
     exact h7.1 h
    exact(s5.cons B.b).nodup_iff.2 h9
   obtain⟨q,hq,a1,⟨G,a2,a3,a4,a5,a6⟩|⟨_,a3⟩⟩:=s6 i x E hi hE
   ·refine⟨q,hq,a1,.inl ⟨G,a2,a3,a4,Yc.mono hI (GH _ ?_) a5,a6⟩⟩;subst a2;intro e';rcases(O G.b).1 (QgS hE)with h|h
    ·exact hFB _ B.self (by rw[<-e',h])
    rw[Uv]at h7;exact h7.1 (by rw[<-e'];exact h)
   cases a3
  rw[St.look_set_other _ _ (Ne.symm e1)]at hob';rcases hr.heap o ob' hob' with⟨B1,u1,u2⟩|⟨u1,hz⟩
  ·refine .inl ⟨B1,by rw[hot o e1 n1];exact u1,?_⟩;have u3:=u2.kill (φ':=φ1) (I':=Xc C Z w) (w':=w) hφ1 (λk hk=>⟨hk,rfl⟩) λ_ _=>rfl;exact u3.heads hh hI λk hk'=>hoth o B1 k e1 u1 hk'
  exact .inr ⟨by rw[hot o e1 n1];exact u1,hz.kill⟩
 rcases hcase with⟨g1,g2,g3⟩|⟨j,xx,E0,rs,g1,g2,g3,g4,g5,g6⟩
 ·have hms:XF lt l k rows=AX lt l k rows:=by unfold XF;rw[g1]
  have O:∀p,p∈AX lt l k rows↔p=(k,rows)\/p∈l:=λp=>by rw[(ZH lt l k rows).mem_iff,Yw]
  have hlen:(AX lt l k rows).length=l.length+1:=by rw[(ZH lt l k rows).length_eq];rfl
  obtain⟨φ',hr'⟩:=write (es.push { key:=val k,val:=a.eval u,born:=clock }) (clock+1) (bs++[X F]) (XF lt l k rows) (MapKept.stamped_push h2 g3) (Qg3 lt h3) (by rw[hms,hlen];simp[h4]) (by rw[hms,hlen];simp[h5])
   (by rw[List.filterMap_append,h6];exact List.perm_append_comm) (λi x E hi hE=>by
    rw[hms];by_cases hil:i<es.size
    ·rw[Array.getElem?_push_lt hil]at hi;rw[Yp (by omega)]at hE;obtain⟨q,hq,a1,⟨G,a2,a3,a4,a5,a6⟩|⟨_,a3⟩⟩:=hrow i x E (by rw[GR hil];exact hi) hE
     ·exact⟨q,(O q).2 (.inr hq),a1,.inl ⟨G,a2,a3,(by simp),a5,a6⟩⟩
     have:=hk.einj _ _ (Option.some.inj a3);exact absurd (by rw[a1,this]) (g3 x (GD.2 ⟨i,by rw[Sv,GR hil];exact hi⟩))
    have:i=es.size:=by
     have:=(Em.1 hi).1;simp at this;omega
    subst this;rw[Array.getElem?_push_size]at hi;cases hi;have hsz:es.size=bs.length:=by rw[h4,h5]
    rw[hsz,YJ (YK _)]at hE;simp at hE;subst hE;exact⟨(k,rows),(O _).2 (.inl rfl),rfl,.inl ⟨F,rfl,rfl,(by simp),harr,huv⟩⟩)
   (λq hq=>by
    rw[hms]at hq;rcases(O q).1 hq with rfl|hq
    ·exact⟨es.size,_,Array.getElem?_push_size,rfl⟩
    obtain⟨i,x,hi,a1⟩:=hall q hq;have hil:=(Em.1 hi).1;exact⟨i,x,by rw[Array.getElem?_push,if_neg (by omega)];exact hi,a1⟩)
  refine⟨_,φ',?_,by rw[hd];exact hr'⟩;simp[execOp,ho,he,hyv,Instr.mapUpdate,run_underlying (EZ hT),MapKept.run_getObj_map h1,MapKept.run_checkKey hD h8,MapKept.run_findKey hD g2,MapKept.run_setObj_map _ h1]
 have hms:XF lt l k rows=CR l k rows:=by unfold XF;rw[g1]
 have O:=QrP h3 ⟨rs,Qg1 g1⟩ (v:=rows);have hlen:(CR l k rows).length=l.length:=by have:=congrArg List.length (Qg2 l k rows);simpa using this
 have hjlt:j<es.size:=(Em.1 g3).1;have hjb:j<bs.length:=(QX.1 g4).1;have hE0:E0=n_:=by
  obtain⟨q,hq,a1,⟨G,a2,a3,a4,_⟩|⟨a3,_⟩⟩:=hrow j xx E0 g3 g4
  ·exact absurd (congrArg (λu=>X (e u)) (hk.inj _ _ (by rw[<-a1,g5]:val q.1=val k)).symm) a4
  exact a3
 subst hE0;have hmod:∀i:Nat,(es.modify j λx=>{ x with key:=val k,val:=a.eval u })[i]? = if i=j then X { xx with key:=val k,val:=a.eval u }else es[i]? := λi=>by
  rw[Qo3];by_cases hij:j=i
  ·subst hij;simp[g3]
  rw[if_neg hij,if_neg (Ne.symm hij)]
 obtain⟨φ',hr'⟩:=write (es.modify j λx=>{ x with key:=val k,val:=a.eval u }) clock (bs.set j (X F)) (XF lt l k rows) (MapKept.stamped_modify h2 _ _ (λ_ _=>rfl) λx _ hx=>by rw[g3]at hx;cases hx;exact g5.symm)
  (Qg3 lt h3) (by rw[hms,Array.size_modify,h4,hlen]) (by rw[hms,List.length_set,h5,hlen]) (by rw[h6];exact QuE bs j F g4) (λi x E hi hE=>by
   rw[hms];rw[hmod]at hi;split at hi
   ·rename_i hij;subst hij;cases hi;rw[Qbx hjb]at hE;cases hE;exact⟨(k,rows),(O _).2 (.inl rfl),rfl,.inl ⟨F,rfl,rfl,(by simp),harr,huv⟩⟩
   rename_i hij;rw[SA (Ne.symm hij)]at hE;obtain⟨q,hq,a1,⟨G,a2,a3,a4,a5,a6⟩|⟨_,a3⟩⟩:=hrow i x E hi hE
   ·exact⟨q,(O q).2 (.inr ⟨hq,λe'=>hij (g6 i x hi (by rw[a1,e']))⟩),a1,.inl ⟨G,a2,a3,(by simp),a5,a6⟩⟩
   have:=hk.einj _ _ (Option.some.inj a3);exact absurd (g6 i x hi (by rw[a1,this])) hij)
  (λq hq=>by
   rw[hms]at hq;rcases(O q).1 hq with rfl|⟨hq,hne'⟩
   ·exact⟨j,_,by rw[hmod,if_pos rfl],rfl⟩
   obtain⟨i,x,hi,a1⟩:=hall q hq;have hij:i≠j:=λe'=>by
    subst e';rw[g3]at hi;cases hi;exact hne' (hk.inj _ _ (by rw[<-a1,g5]))
   exact⟨i,x,by rw[hmod,if_neg hij];exact hi,a1⟩)
 refine⟨_,φ',?_,by rw[hd];exact hr'⟩;simp[execOp,ho,he,hyv,Instr.mapUpdate,run_underlying (EZ hT),MapKept.run_getObj_map h1,MapKept.run_checkKey hD h8,MapKept.run_findKey hD g2,MapKept.run_setObj_map _ h1,g3,g5,MapKept.run_keyThatStays h8]
def R.grpMap {b z K:Nat}{κ:Type}[DecidableEq κ]{e:κ->V}{val:κ->Value}{l:L_ (κ×L_ (L_ V))}(hk:Dh P K e val)(hp:Nat.ble 635 b=f_)(h:R C Y a w)(hb:look Y.hp b=X (.grp z (Cc e l) n_)):
  R C (Y.set b (.map (QJ e (V.sl z) l))) a w:=by
 obtain⟨Z,h⟩:=h;have hlt:b<635:=by
  rcases DX b 635 with h|h
  ·exact h
  rw[Zm h]at hp;cases hp
 rcases h.heap b _ hb with⟨B,hB,hrep⟩|⟨_,h2⟩
 ·let B':QV:=⟨B.b,B.cap,B.z,[],B.off⟩;have hB':∀k,B'.has k->k=B.b:=λk hk=>hk.elim id (λh=>by cases h);have hI:∀k,Xc C Z w k->Xc C (ext Z b B') w k/\w.heap[k]? = w.heap[k]? := λk hk=>⟨⟨hk.1,hk.2.1,λo B1 O hh=>by
   by_cases e:o=b
   ·subst e;rw[Xb]at O;cases O;exact hk.2.2 o B hB (.inl (hB' k hh))
   rw[QP _ e]at O;exact hk.2.2 o B1 O hh⟩,rfl⟩
  have hmore:∀k,k∈B.more->k≠B.b->Xc C (ext Z b B') w k:=λk hk hne=>by
   refine⟨(h.lt b B k hB (.inr hk)).1,λhlt'=>?_,λo B1 O hh=>?_⟩
   ·have:=h.new b B k hB (.inr hk) hlt;omega
   by_cases e:o=b
   ·subst e;rw[Xb]at O;cases O;exact hne (hB' k hh)
   rw[QP _ e]at O;exact e (h.inj o b B1 B k O hB hh (.inr hk))
  have hrepV:∀{x:Value} {v:V},QR Z (Xc C Z w) w x v->QR (ext Z b B') (Xc C (ext Z b B') w) w x v:=by
   intro x v hr
   induction hr with
   |dat d=>exact .dat (d.mono hI)|own0 p=>exact .own0 p|own p n B1 O hn=>
    by_cases e:p=b
    ·subst e;rw[hB]at O;cases O;exact QR.own (Z:=ext Z p B') p n B' (Xb _ _ _) hn
    exact .own p n B1 (by rw[QP _ e];exact O) hn
   |tl0 p k c a=>exact .tl0 p k c a|tl p k n c B1 O=>
    by_cases e:p=b
    ·subst e;rw[hB]at O;cases O;exact QR.tl (Z:=ext Z p B') p k n c B' (Xb _ _ _)
    exact .tl p k n c B1 (by rw[QP _ e];exact O)
   |loc p i d B1 O=>
    by_cases e:p=b
    ·subst e;rw[hB]at O;cases O;exact QR.loc (Z:=ext Z p B') p i d B' (Xb _ _ _)
    exact .loc p i d B1 (by rw[QP _ e];exact O)
   |map p B1 O=>
    by_cases e:p=b
    ·subst e;rw[hB]at O;cases O;exact QR.map (Z:=ext Z p B') p B' (Xb _ _ _)
    exact .map p B1 (by rw[QP _ e];exact O)
   |agg xs cs hs _ ih=>exact .agg xs cs hs ih|tup xs cs hs _ ih=>exact .tup xs cs hs ih|ifc t x v _ ih=>exact .ifc t x v ih|clo fn xs ys vs us O h2 _ _ ih1 ih2=>exact .clo fn xs ys vs us O h2 ih1 ih2
  refine⟨ext Z b B',h.os,h.tape,h.output,h.size,h.kept,λo1 o2 B1 B2 k e1 e2 b1 b2=>?_,λo B1 O=>?_,λo B1 k O hk=>?_,λo B1 k O hk hl=>?_,⟨λo B1 hge O=>?_,λo ob B1 hge ho hB1=>by rw[QP _ (by omega)];rw[Y.look_set_other _ (by omega)]at ho;exact h.stay.2 o ob B1 hge ho hB1⟩,h.tmps,h.defers.mono hI,λt v hv=>?_,λo ob hob=>?_⟩
  ·have up:∀o B1,ext Z b B' o=X B1->B1.has k->∃B2,Z o=X B2/\B2.has k:=λo B1 O hk=>by
    by_cases e:o=b
    ·subst e;rw[Xb]at O;cases O;exact⟨B,hB,.inl (hB' k hk)⟩
    rw[QP _ e]at O;exact⟨B1,O,hk⟩
   obtain⟨_,u1,u2⟩:=up o1 B1 e1 b1;obtain⟨_,u3,u4⟩:=up o2 B2 e2 b2;exact h.inj o1 o2 _ _ k u1 u3 u2 u4
  ·by_cases e:o=b
   ·subst e;exact⟨_,Y.look_set_same _ _⟩
   rw[QP _ e]at O;obtain⟨ob,h2⟩:=h.dom o B1 O;exact⟨ob,by rw[Y.look_set_other _ (Ne.symm e)];exact h2⟩
  ·by_cases e:o=b
   ·subst e;rw[Xb]at O;cases O;exact h.lt o B k hB (.inl (hB' k hk))
   rw[QP _ e]at O;exact h.lt o B1 k O hk
  ·by_cases e:o=b
   ·subst e;rw[Xb]at O;cases O;exact h.new o B k hB (.inl (hB' k hk)) hl
   rw[QP _ e]at O;exact h.new o B1 k O hk hl
  ·rw[QP _ (by omega)]at O;exact h.stay.1 o B1 hge O
  ·obtain⟨x,hx,hr⟩:=h.frame t v hv;exact⟨x,hx,hrepV hr⟩
  by_cases eo:o=b
  ·subst eo;rw[Y.look_set_same]at hob;cases hob;obtain⟨es,clock,O,h2,h3,h4,bs,h5,h6,h7,h8,h9⟩:=hrep;have hrow:∀(i:Nat) (x:MapEntry),es[i]? = X x->∃q∈l,XJ (Xc C (ext Z o B') w) w x.key (e q.1)/\XJ (Xc C (ext Z o B') w) w x.val (.sl z q.2):=λi x hi=>by
    have hlt:i<bs.length:=by rw[h5,<-h4];exact(Em.1 hi).1
    have hbi:bs[i]? = X bs[i]:=QI hlt;obtain⟨p,hp,a1,⟨F,a0,_,_,a2,a3⟩|⟨_,a2⟩⟩:=h8 i x _ hi hbi
    case inr=>cases a2
    rw[a0]at hbi;obtain⟨q,hq,rfl⟩:=Ye.1 hp;refine⟨q,hq,a1.mono hI,?_⟩;rw[a3];obtain⟨b1,b2,b3,cs,E,b4,b5,b6⟩:=a2;have hin:F.b∈B.more:=by rw[h6];exact QgS hbi
    have hne:F.b≠B.b:=λe'=>by rw[Uv]at h7;exact h7.1 (by rw[<-e'];exact hin)
    by_cases h0:q.2=[]
    ·show XJ _ w (.slice _ q.2.length _) _;rw[h0];exact .sl0 _ _ _
    refine .sl F.b F.off q.2.length F.cap z q.2 (λj=>cs.getD (F.off+j) undef) (hmore _ hin hne) rfl b2 b3 (λj hj=>?_) (λk r hk j v hj=>?_)
    ·have hle2:q.2.length*z<=F.cap*z:=Ys _ b2;have:F.off+j<cs.size:=by omega
     simp[World.cell?,b4,Array.getD,this]
    obtain⟨y,hy,hd⟩:=b6 k r hk j v hj;have:cs.getD (F.off+(k*z+j)) undef=y:=by simp[Qb6,hy]
    rw[this];exact hd.mono hI
   refine .inl ⟨B',Xb _ _ _,es,clock,O,h2,(SE hk.einj).2 ((QbC hk.einj).1 h3),by simpa[QJ,Cc] using h4,λx hx=>?_,λp hp=>?_⟩
   ·obtain⟨i,hi⟩:=GD.1 hx;rw[Sv]at hi;obtain⟨q,hq,c1,c2⟩:=hrow i x hi;exact⟨_,Ye.2 ⟨q,hq,rfl⟩,c1,c2⟩
   obtain⟨q,hq,rfl⟩:=Ye.1 hp;obtain⟨i,x,hi,d1⟩:=h9 (e q.1,q.2) (Ye.2 ⟨q,hq,rfl⟩);obtain⟨q',hq',c1,c2⟩:=hrow i x hi;have h11:q'.1=q.1:=hk.inj _ _ (by rw[<-hk.inv _ _ _ _ c1,<-hk.inv _ _ _ _ d1]);have hn:=(QbC hk.einj).1 h3;have m1:=Pi hn (show(q.1,q'.2)∈l by rw[<-h11];exact hq');have m2:=Pi hn (show(q.1,q.2)∈l from hq);have h12:q'.2=q.2:=by rw[m1]at m2;exact Option.some.inj m2
   exact⟨x,GD.2 ⟨i,by rw[Sv];exact hi⟩,by rw[<-h11];exact c1,by rw[<-h12];exact c2⟩
  rw[Y.look_set_other _ (Ne.symm eo)]at hob;rcases h.heap o ob hob with⟨B1,O,hr⟩|⟨O,h2⟩
  ·refine .inl ⟨B1,by rw[QP _ eo];exact O,?_⟩;cases ob with
   |var vs=>
    obtain⟨cs,E,a1,a2,a0,a3⟩:=hr;exact⟨cs,E,a1,a2,a0,λj x v hx hv=>hrepV (a3 j x v hx hv)⟩
   |lp l K vs q=>
    obtain⟨tmps,D,e0,a1,a2,a3,a4⟩:=hr;exact⟨tmps,D,e0,a1,a2,a3,λj x v hx hv=>hrepV (a4 j x v hx hv)⟩
   |arr z rs=>exact Yc.mono hI rfl hr|map l=>exact Dz.mono hI rfl hr|grp z l lk=>exact KP.mono hI (λ_ _=>rfl) hr|mapX bm clock L l=>exact EI.mono hI rfl hr|itr bm since seen cur=>exact hr|itr0=>exact hr|tbl A z rs=>exact En.mono hI (λ_ _=>rfl) hr|nst x v=>exact hr|scr D H=>exact hr
  exact .inr ⟨by rw[QP _ eo];exact O,h2⟩
 exact h2.elim
end
def SF {κ α:Type}(f:α->L_ V)(l:L_ (κ×L_ α)):L_ (κ×L_ (L_ V)):=l.map λp=>(p.1,p.2.map f)
def OJ {κ α:Type}(e:κ->V)(f:α->L_ V)(l:L_ (κ×L_ α)):L_ (V×L_ (L_ V)):=Cc e (SF f l)
def Qqo {κ α:Type}[DecidableEq κ](f:α->L_ V)(l:L_ (κ×L_ α))(k:κ):Qy (SF f l) k=(Qy l k).map (List.map f):=by
 induction l with|nil=>rfl|cons p l h=>simp only[SF,GC,Qy]at h ⊢;split<;>simp_all
def QuF {κ α:Type}[DecidableEq κ](f:α->L_ V)(l:L_ (κ×L_ α))(k:κ)(rows:L_ α):CR (SF f l) k (rows.map f)=SF f (CR l k rows):=by
 induction l with|nil=>rfl|cons p l h=>simp only[SF,GC,CR]at h ⊢;split<;>simp_all
def QuG {κ α:Type}(lt:κ->κ->Bool)(f:α->L_ V)(l:L_ (κ×L_ α))(k:κ)(rows:L_ α):AX lt (SF f l) k (rows.map f)=SF f (AX lt l k rows):=by
 induction l with|nil=>rfl|cons p l h=>simp only[SF,GC,AX]at h ⊢;split<;>simp_all
def QuH {κ α:Type}[DecidableEq κ](lt:κ->κ->Bool)(f:α->L_ V)(l:L_ (κ×L_ α))(k:κ)(rows:L_ α):XF lt (SF f l) k (rows.map f)=SF f (XF lt l k rows):=by
 unfold XF;rw[Qqo];cases Qy l k with|none=>exact QuG lt f l k rows|some v=>exact QuF f l k rows
section
variable {P:Program}{C:Xs}{Y:St}{o:Oper}{a:Act}{w:World}
def Stp.lookupOutT {T d b K E z n:Nat}{x y:Operand}{κ α:Type}[DecidableEq κ]{e:κ->V}{f:α->L_ V}{val:κ->Value}{l:L_ (κ×L_ α)}{k:κ}{rows:L_ (L_ V)}(ho:o.op=.lookup T x y f_)(hd:o.dst=X d)
  (hn:B_ d C) (hx:Y.opd x=X (.map b)) (hb:look Y.hp b=X (.grp z (OJ e f l) n_)) (hy:Y.opd y=X (e k)) (hT:IZ P T=X (K,E)) (hk:Dh P K e val)
  (hz:Qo8 P E=t_) (hpb:Nat.ble 635 b=f_) (hpd:Nat.ble 635 d=f_) (O:Nat.beq b d=f_) (h:((Qy l k).getD []).map f=rows) (hln:((Qy l k).getD []).length=n):
  Stp P C o Y ((((Y.kill d).set b (.grp z (OJ e f l) (X (e k)))).set d (.arr z rows)).put d (.own d n)):=
 Stp.lookupOut ho hd hn hx hb hy hT hk hz hpb hpd O (by rw[Qqo,<-h];cases Qy l k<;>rfl) (by rw[<-h,KO];exact hln)
def Stp.updateBackT {T d b K E z n:Nat}{x y u:Operand}{κ α:Type}[DecidableEq κ]{e:κ->V}{f:α->L_ V}{val:κ->Value}{l:L_ (κ×L_ α)}{k:κ}(rows:L_ α){rs:L_ (L_ V)}(lt:κ->κ->Bool)(ho:o.op=.mapUpdate T x y u)(hd:o.dst=n_)
  (hx:Y.opd x=X (.map b)) (hb:look Y.hp b=X (.grp z (OJ e f l) (X (e k)))) (hy:Y.opd y=X (e k)) (hu:Y.opd u=X (.own d n)) (hdd:look Y.hp d=X (.arr z rs)) (hT:IZ P T=X (K,E)) (hk:Dh P K e val)
  (hpb:Nat.ble 635 b=f_) (hpd:Nat.ble 635 d=f_) (O:Nat.beq b d=f_) (hrs:rs=rows.map f) (hln:n=rows.length) (hne:rows≠[]):
  Stp P C o Y ((Y.kill d).set b (.grp z (OJ e f (XF lt l k rows)) n_)):=by
 subst hrs;show Stp P C o Y ((Y.kill d).set b (.grp z (Cc e (SF f (XF lt l k rows))) n_));rw[<-QuH];exact Stp.updateBack lt ho hd hx hb hy hu hdd hT hk hpb hpd O (by rw[KO];exact hln) (λh=>hne (List.map_eq_nil_iff.1 h))
def R.grpMapT {b z K:Nat}{κ α:Type}[DecidableEq κ]{e:κ->V}{f:α->L_ V}{val:κ->Value}{l:L_ (κ×L_ α)}(hk:Dh P K e val)(hp:Nat.ble 635 b=f_)(h:R C Y a w)(O:look Y.hp b=X (.grp z (OJ e f l) n_)):
  R C (Y.set b (.map (QJ e (λx=>V.sl z (x.map f)) l))) a w:=by
 have:=R.grpMap hk hp h O;rwa[show QJ e (V.sl z) (SF f l)=QJ e (λx=>V.sl z (x.map f)) l by simp[QJ,SF]]at this
end
def QQ.toData {P:Program}{f:FuncId}{us:L_ V}{z:Nat}{rows:L_ (L_ V)}(h:QQ P f us [] (Qm6 z rows)):QQ P f us [] (λv _=>v=.sl z rows):=by
 intro S Z w vals hi hG;refine(h S Z w vals hi hG).mono ?_;rintro e w' ⟨x,v,hs',φ',rfl,⟨o,rfl,hl⟩,ho⟩;have hφ:∀o B,Z o≠X B:=λo B hB=>by obtain⟨ob,h⟩:=(hi.dom o B hB).2.2;cases h
 have hA:∀k,Aft S φ' w w' k->Aft S (λ_=>n_) w w' k:=λk hk=>⟨hk.1,hk.2.1,λ_ _ h=>by cases h⟩;refine⟨x,.sl z rows,[],λ_=>n_,rfl,rfl,ho.os,ho.tape,ho.output,ho.size,ho.kept,λ_ _ _ _ _ h=>(by cases h),λ_ _ h=>(by cases h),λ_ _ _ h=>(by cases h),λ_ _ _ h=>(by cases h),⟨λ_ _ _ h=>(by cases h),λ_ _ _ _ h=>(by cases h)⟩,?_,λ_ _ h=>(by cases h)⟩;rcases ho.heap o _ hl with⟨B,hB,hrep⟩|⟨hn,hz⟩
 ·rcases ho.rep.own_inv with⟨rfl,h0⟩|⟨B',O,hcap,rfl⟩
  ·have:rows=[]:=Np.1 h0;subst this;exact .dat (.sl0 _ _ _)
  rw[hB]at O;cases O;obtain⟨rfl,hrl,hok,cs,E,h1,h2,h3⟩:=hrep;refine .dat (.sl B.b B.off rows.length B.cap B.z rows (λj=>cs.getD (B.off+j) undef) ⟨(ho.lt o B B.b hB B.self).1,λhlt=>?_,λ_ _ h=>by cases h⟩ rfl hcap hok (λj hj=>?_) (λi r hi j v hj=>?_))
  ·obtain⟨o',B',h4,_⟩:=(ho.lt o B B.b hB B.self).2 hlt;exact absurd h4 (hφ _ _)
  ·have hle2:rows.length*B.z<=B.cap*B.z:=Ys _ hcap;have:B.off+j<cs.size:=by omega
   simp[World.cell?,h1,Array.getD,this]
  obtain⟨y,hy,hd⟩:=h3 i r hi j v hj;have:cs.getD (B.off+(i*B.z+j)) undef=y:=by simp[Qb6,hy]
  rw[this];exact hd.mono λk hk=>⟨hA k hk,rfl⟩
 replace hz:rows=[]:=hz;subst hz;rcases ho.rep.own_inv with⟨rfl,h0⟩|⟨B',O,hcap,rfl⟩
 ·exact .dat (.sl0 _ _ _)
 rw[hn]at O;cases O
structure EJ where
 ag:List (Nat×Bool)
 sz:List (Nat×Nat)
 fo:List (Nat×List Nat)
 sp:List (Nat×List (Nat×Nat))
 es:List (Nat×(Nat×Nat×Nat))
 ar:List (Nat×(Nat×Nat))
 zv:List (Nat×List V)
 sb:List Nat
 bo:List Nat
 cc:List Nat
 en:List Nat
def foB (P:Program)(t:Nat):L_ Nat->Nat->Bool
 |[],_=>t_|off::r,i=>(match Rn P t i with|some k=>Nat.beq k off|none=>f_)&&foB P t r (i+1)
def EJ.okB (P:Program)(T:EJ):Bool:=
 T.ag.all (λp=>Ux P p.1==X p.2)&&T.sz.all (λp=>BA P p.1==X p.2)&&T.fo.all (λp=>foB P p.1 p.2 0)&&T.sp.all (λp=>QgV P p.1==X p.2) &&
 T.es.all (λp=>XZ P p.1==X p.2)&&T.ar.all (λp=>SC P p.1==X p.2)&&T.sb.all (QeX P)&&T.bo.all (Qm8 P)&&T.cc.all (Qkc P)&&T.en.all (QeZ P)
structure DI (P:Program) (T:EJ):Prop where
 ag:∀{t b},look T.ag t=X b->Ux P t=X b
 sz:∀{t b},look T.sz t=X b->BA P t=X b
 fo:∀{t l},look T.fo t=X l->∀{i:Nat} {k:Nat},l[i]? = X k->Rn P t i=X k
 sp:∀{t b},look T.sp t=X b->QgV P t=X b
 es:∀{t b},look T.es t=X b->XZ P t=X b
 ar:∀{t b},look T.ar t=X b->SC P t=X b
 zv:∀{t b},look T.zv t=X b->Xm P t=X b
 sb:∀{t},XK T.sb t=t_->QeX P t=t_
 bo:∀{t},XK T.bo t=t_->Qm8 P t=t_
 cc:∀{t},XK T.cc t=t_->Qkc P t=t_
 en:∀{t},XK T.en t=t_->QeZ P t=t_
def QxC {P:Program}{t:Nat}:∀{l:L_ Nat} {j:Nat},foB P t l j=t_->∀{i k:Nat},l[i]? = X k->Rn P t (j+i)=X k:=by
 intro l
 induction l with
 |nil=>intro j _ i k h;simp at h|cons off r ih=>
  intro j h i k O;rw[foB,QL]at h;cases i with
  |zero=>
   simp at O;subst O;have:=h.1;split at this
   ·rename_i k' hk';rw[PO,hk',Yr this]
   cases this
  |succ i=>simp at O;have:=ih h.2 O;rwa[show j+(i+1)=j+1+i by omega]
def EJ.ok {P:Program}{T:EJ}(h:T.okB P=t_)(hz:∀p∈T.zv,Xm P p.1=X p.2):DI P T:=by
 simp only[EJ.okB,QL,XM,beq_iff_eq]at h;obtain⟨⟨⟨⟨⟨⟨⟨⟨⟨h1,h2⟩,h3⟩,h4⟩,h5⟩,h6⟩,h7⟩,h8⟩,h9⟩,O⟩:=h;exact⟨λe=>h1 _ (Jv e),λe=>h2 _ (Jv e),λe i k hk=>by have:=QxC (h3 _ (Jv e)) hk;rwa[DY]at this,λe=>h4 _ (Jv e),
  λe=>h5 _ (Jv e),λe=>h6 _ (Jv e),λe=>hz _ (Jv e),λe=>h7 _ (Mm.1 e),λe=>h8 _ (Mm.1 e),λe=>h9 _ (Mm.1 e),λe=>O _ (Mm.1 e)⟩
inductive Mode where
 |d
 |n (z:Nat)
 |o (us:List (List V))
 |f (n:Nat)
 |t (b:Nat)
inductive WE where
 |no
 |row (r:List V)
 |ix
 |rows (rs:List (List V))
 |ln (n:Nat)
 |num (r:Int)
 |bd (ms:List (Option Nat))
 |c (g:Bool) (ms:List Mode) (r:V)
 |co (g:Bool) (ms:List Mode) (z:Nat) (rows:List (List V)) (m:Nat)
 |cd (g:Bool) (ms:List Mode) (z:Nat) (rows:List (List V)) (m:Nat)
 |any (v:V) (ob:Option Ob)
structure Rs where
 v:V
 ob:Option Ob
 Z:Option Prop
def Rs.holds (r:Rs):Prop:=match r.Z with|none=>True|some p=>p
def evs (f:Operand->O_ V):L_ Operand->O_ (L_ V)
 |[]=>X []|x::r=>match f x with
  |some v=>match evs f r with|some vs=>X (v::vs)|none=>n_
  |none=>n_
def evp (f:Operand->O_ V):L_ (Nat×Operand)->O_ S_
 |[]=>X []|(i,x)::r=>match f x with
  |some v=>match evp f r with|some vs=>X ((i,v)::vs)|none=>n_
  |none=>n_
def QtD (hp:Nat->O_ Ob)(g:Bool)(m:Mode)(v:V):O_ (V×O_ Prop):=match m with
 |.d=>bif v.datA then X (v,n_)else n_|.n z=>match v with|.lit (.slice n_ 0 0)=>X (.sl z [],n_)|_=>n_
 |.o us=>match v with
  |.own b n=>match hp b with|some (.arr z rs)=>bif g then X (.sl z us,X (n<=rs.length/\rs.take n=us))else n_|_=>n_
  |_=>n_
 |.f _=>n_|.t b=>match v with
  |.lit x=>match hp b with|some (.nst y u)=>bif g then X (u,X (x=y))else n_|_=>n_
  |_=>n_
def QAe (Z:O_ Prop)(p:Prop):Prop:=match Z with|none=>p|some q=>q/\p
def QfG (hp:Nat->O_ Ob)(g:Bool):L_ Mode->L_ V->O_ (L_ V×(Prop->Prop))
 |[],[]=>X ([],id)|m::ms,v::vs=>match QtD hp g m v with
  |some (u,Z)=>match QfG hp g ms vs with|some (us,k)=>X (u::us,λp=>QAe Z (k p))|none=>n_
  |none=>n_
 |_,_=>n_
def ikB : IntKind->IntKind->Bool
 |.i8,.i8 | .i16,.i16 | .i32,.i32 | .i64,.i64 | .u8,.u8 | .u16,.u16 | .u32,.u32 | .u64,.u64=>t_|_,_=>f_
def QrR {a b:IntKind}(h:ikB a b=t_):a=b:=by cases a<;>cases b<;>first|rfl|cases h
def Qv3 (T:EJ)(op:BinOp)(h:TypeId):V->V->O_ Rs
 |.i k m,.i O n=>bif ikB k O then match op with
  |.quo=>X ⟨.i k (k.wrap (m.tdiv n)),n_,X (n≠0)⟩|.rem=>X ⟨.i k (m.tmod n),n_,X (n≠0)⟩|op=>match Qtz op k m n with|some v=>X ⟨v,n_,n_⟩|none=>n_
  else n_
 |.b m,.b n=>bif XK T.bo h then match op with|.eql=>X ⟨.b (m==n),n_,n_⟩|.neq=>X ⟨.b (m != n),n_,n_⟩|_=>n_
  else n_
 |.s m,.s n=>match op with|.eql=>X ⟨.b (Km m n),n_,n_⟩|.neq=>X ⟨.b (!Km m n),n_,n_⟩|_=>n_
 |_,_=>n_
def unV (op:UnOp):V->O_ Rs
 |.b t=>match op with|.not=>X ⟨.b (!t),n_,n_⟩|_=>n_
 |.i k m=>match op with|.neg=>X ⟨.i k (k.wrap (0-m)),n_,n_⟩|_=>n_
 |_=>n_
def QiI (T:EJ)(O:TypeId)(h:L_ V)(off:Nat)(Z:O_ Prop):O_ Rs:=
 match look T.ag O with
 |some true=>match look T.sz O with|some n=>bif Nat.ble (off+n) h.length then X ⟨.agg ((h.drop off).take n),n_,Z⟩else n_|none=>n_
 |some false=>match h[off]? with|some v=>X ⟨v,n_,Z⟩|none=>n_
 |none=>n_
def QtE (T:EJ)(h:WE)(O:TypeId)(hp:Nat->O_ Ob):V->O_ Rs
 |.loc b i off=>match hp b with
  |some (.var cs)=>match i with|0=>QiI T O cs off n_|_=>n_
  |some (.arr _ rs)=>match h with|.row r=>QiI T O r off (X (rs[i]? = X r))|_=>n_
  |_=>n_
 |.ro cs=>QiI T O cs 0 n_|_=>n_
def QrS (T:EJ)(h:TypeId)(i:Nat):V->O_ Rs
 |.loc b k off=>match look T.fo h with
  |some l=>match l[i]? with|some n=>X ⟨.loc b k (off+n),n_,n_⟩|none=>n_
  |none=>n_
 |.ro O=>match look T.fo h with
  |some l=>match l[i]? with|some n=>X ⟨.ro (O.drop n),n_,n_⟩|none=>n_
  |none=>n_
 |_=>n_
def QrT (T:EJ)(h:WE)(O:TypeId)(hp:Nat->O_ Ob):V->V->O_ Rs
 |.sl z rows,.i _ j=>match look T.es O with
  |some p=>match h with|.row r=>bif Nat.beq z p.2.1 then X ⟨.ro r,n_,X (0<=j/\rows[j.toNat]? = X r)⟩else n_|_=>n_
  |none=>n_
 |.own b n,.i _ j=>match look T.es O with
  |some p=>match hp b with|some (.arr z _)=>bif Nat.beq z p.2.1 then X ⟨.loc b j.toNat 0,n_,X (0<=j/\j<(n:Int))⟩else n_|_=>n_
  |none=>n_
 |.loc b i m,.i _ j=>match look T.ar O with|some p=>bif decide (0<=j)&&decide (j<(p.1:Int))then X ⟨.loc b i (m+j.toNat*p.2),n_,n_⟩else n_|none=>n_
 |.ro cs,.i _ j=>match look T.ar O with|some p=>bif decide (0<=j)&&decide (j<(p.1:Int))then X ⟨.ro (cs.drop (j.toNat*p.2)),n_,n_⟩else n_|none=>n_
 |_,_=>n_
def Qv4 (T:EJ)(h:WE)(O:TypeId):V->O_ Rs
 |.sl _ rows=>bif (look T.es O).isSome then match h with|.ln m=>X ⟨.i .i64 m,n_,X (rows.length=m)⟩|_=>X ⟨.i .i64 rows.length,n_,n_⟩
  else n_
 |.own _ n=>bif (look T.es O).isSome then X ⟨.i .i64 n,n_,n_⟩else n_|.lit (.slice n_ 0 0)=>bif (look T.es O).isSome then X ⟨.i .i64 0,n_,n_⟩else n_|.s s=>bif XK T.sb O then X ⟨.i .i64 s.size,n_,n_⟩else n_|_=>n_
def mkV (T:EJ)(h:WE)(O d:TypeId):V->V->O_ Rs
 |.i _ l,.i _ c=>match look T.es O with
  |some p=>match look T.zv p.1 with
   |some zs=>match h with
    |.rows rs=>bif Nat.beq zs.length p.2.1&&!(Nat.beq p.2.1 0)&&zs.all V.one&&Nat.ble p.2.2 32768 then
     X ⟨.own d l.toNat,X (.arr p.2.1 rs),X ((decide (0<=l)&&decide (l<=c)&&decide (c<=4294967296))=t_/\List.replicate l.toNat zs=rs)⟩else n_
    |_=>n_
   |none=>n_
  |none=>n_
 |_,_=>n_
def mmV (mx:Bool):V->V->O_ Rs
 |.i k m,.i h n=>bif ikB k h then bif mx then X ⟨.i k (Vm.max2 m n),n_,n_⟩else X ⟨.i k (Vm.min2 m n),n_,n_⟩else n_|_,_=>n_
def QrC (P:Program)(C:Xs)(T:EJ)(h:WE)(hp:Nat->O_ Ob)(d fn:Nat)(vs:L_ V):O_ Rs:=
 bif XK T.en fn then match h with
 |.c g ms r=>match QfG hp g ms vs with|some (us,k)=>bif (!g&&r.datA)||r.scaA then X ⟨r,n_,X (k (QQ P fn us [] (Gives r [])))⟩else n_|none=>n_
 |.co g ms z rows m=>match QfG hp g ms vs with|some (us,k)=>X ⟨.own d m,X (.arr z rows),X (k (QQ P fn us [] (Gives (.own 600 m) [(600,.arr z rows)])/\rows.length=m/\(g=f_\/∀r∈rows,∀v∈r,v.sca=t_)))⟩|none=>n_
 |.cd g ms z rows m=>match QfG hp g ms vs with|some (us,k)=>bif !g then X ⟨.sl z rows,n_,X (k (QQ P fn us [] (Gives (.own 600 m) [(600,.arr z rows)])/\rows.length=m))⟩else n_|none=>n_
 |_=>n_
 else n_
def ev1 (P:Program)(C:Xs)(T:EJ)(h:WE)(o:Oper)(d:Nat)(f:Operand->O_ V)(hp:Nat->O_ Ob):O_ Rs:=
 match h with
 |.any v ob=>X ⟨v,ob,X (∀Y:St,(∀x u,f x=X u->Y.opd x=X u)->(∀b u,hp b=X u->look Y.hp b=X u)->(ob.isSome=t_->look Y.hp d=n_)->Stp P C o Y (Y.addF ⟨d,v,ob⟩))⟩|h=>match o.op with
  |.move x=>match f x with|some v=>X ⟨v,n_,n_⟩|none=>n_
  |.assign x=>match f x with|some v=>X ⟨v,n_,n_⟩|none=>n_
  |.pick c a b=>match f c with
   |some (.b t_)=>match f a with|some v=>X ⟨v,n_,n_⟩|none=>n_
   |some (.b f_)=>match f b with|some v=>X ⟨v,n_,n_⟩|none=>n_
   |_=>n_
  |.binOp op O x y _=>match f x with
   |some v=>match f y with|some u=>Qv3 T op O v u|none=>n_
   |none=>n_
  |.unOp op _ x=>match f x with|some v=>unV op v|none=>n_
  |.alloc O=>match look T.zv O with|some zs=>X ⟨.loc d 0 0,X (.var zs),n_⟩|none=>n_
  |.box _ x=>match f x with|some (.agg cs)=>X ⟨.loc d 0 0,X (.var cs),n_⟩|some v=>bif v.one then X ⟨.loc d 0 0,X (.var [v]),n_⟩else n_|none=>n_
  |.load O x=>match f x with|some v=>QtE T h O hp v|none=>n_
  |.fieldAddr O x i=>match f x with|some v=>QrS T O i v|none=>n_
  |.indexAddr O x y=>match f x with
   |some v=>match f y with|some u=>QrT T h O hp v u|none=>n_
   |none=>n_
  |.build O parts=>match evp f parts.toList with
   |some qs=>match look T.zv O with
    |some zs=>bif qs.all (λq=>q.2.isV)then match look T.sp O with
      |some pl=>match Uy (pl[·]?) zs qs with|some vs=>X ⟨.agg vs,n_,n_⟩|none=>n_
      |none=>match look T.ar O with
       |some p=>match Uy (λi=>X (i*p.2,p.2)) zs qs with|some vs=>X ⟨.agg vs,n_,n_⟩|none=>n_
       |none=>n_
     else n_
    |none=>n_
   |none=>n_
  |.buildSlice O n parts=>match evp f parts.toList with
   |some qs=>match look T.es O with
    |some p=>match look T.zv p.1 with
     |some zs=>bif qs.all (λq=>q.2.isV)&&Nat.beq zs.length p.2.1&&!(Nat.beq p.2.1 0)&&Nat.ble (n*p.2.1) 16777216 then
      match Uy (λi=>X (i*p.2.1,p.2.1)) ((List.range (n*p.2.1)).map λk=>zs.getD (k % p.2.1) .J) qs with
      |some vs=>match h with|.bd ms=>bif (DZ ms vs).all V.one&&(DZ ms vs).all V.dat then X ⟨.sl p.2.1 (Ic p.2.1 n (DZ ms vs)),n_,n_⟩else n_|_=>bif vs.all V.one&&vs.all V.dat then X ⟨.own d n,X (.arr p.2.1 (Ic p.2.1 n vs)),n_⟩else n_
      |none=>n_
      else n_
     |none=>n_
    |none=>n_
   |none=>n_
  |.extract x i=>match f x with
   |some (.tup vs)=>match vs[i]? with|some v=>X ⟨v,n_,n_⟩|none=>n_
   |_=>n_
  |.nilCheck x=>match f x with|some (.loc b i k)=>X ⟨.loc b i k,n_,n_⟩|_=>n_
  |.makeInterface O x=>match f x with|some v=>bif XK T.cc O then X ⟨.ifc O v,n_,n_⟩else n_|none=>n_
  |.typeAssert x _ O false=>match f x with|some (.ifc t v)=>bif Nat.beq t O&&XK T.cc O then X ⟨v,n_,n_⟩else n_|_=>n_
  |.makeFunc fn first caps=>match evs f first.toList with
   |some vs=>match evs f caps.toList with|some us=>X ⟨.clo fn vs us,n_,n_⟩|none=>n_
   |none=>n_
  |.index O x y=>match f x with
   |some (.s s)=>match f y with
    |some (.i _ j)=>match h with|.num r=>bif XK T.sb O then X ⟨.i .u8 r,n_,X (sidx s j=X r)⟩else n_|_=>n_
    |_=>n_
   |_=>n_
  |.makeSlice O x y=>match f x with
   |some v=>match f y with|some u=>mkV T h O d v u|none=>n_
   |none=>n_
  |.makeMap _ none=>X ⟨.map d,X (.map []),n_⟩|.call c=>match c.callee with
   |.builtin .max=>match c.args.toList with
    |[x,y]=>match f x with
     |some v=>match f y with|some u=>mmV t_ v u|none=>n_
     |none=>n_
    |_=>n_
   |.builtin .min=>match c.args.toList with
    |[x,y]=>match f x with
     |some v=>match f y with|some u=>mmV f_ v u|none=>n_
     |none=>n_
    |_=>n_
   |.builtin .len=>match c.args.toList with
    |[x]=>match c.argTypes.toList with
     |[O]=>match f x with|some v=>Qv4 T h O v|none=>n_
     |_=>n_
    |_=>n_
   |.value x=>match f x with
    |some (.clo (.func fn) fs cs)=>match evs f c.args.toList with|some vs=>QrC P C T h hp d fn (fs++(vs++cs))|none=>n_
    |_=>n_
   |_=>n_
  |_=>n_
section
variable {P:Program}{C:Xs}{T:EJ}{o:Oper}{d:Nat}{f:Operand->O_ V}{hp:Nat->O_ Ob}{Y:St}
def Ua (h1:∀x u,f x=X u->Y.opd x=X u):∀{l:L_ Operand} {vs:L_ V},evs f l=X vs->Y.opsV l=X vs:=by
 intro l
 induction l with
 |nil=>intro vs h;exact h|cons x l ih=>
  intro vs h;rw[evs]at h;split at h
  ·rename_i v hv;split at h
   ·rename_i us O;cases h;simp only[St.opsV,h1 _ _ hv,ih O]
   cases h
  cases h
def GS (h1:∀x u,f x=X u->Y.opd x=X u):∀{l:L_ (Nat×Operand)} {vs:S_},evp f l=X vs->Y.opds l=X vs:=by
 intro l
 induction l with
 |nil=>intro vs h;exact h|cons x l ih=>
  intro vs h;obtain⟨i,x⟩:=x;rw[evp]at h;split at h
  ·rename_i v hv;split at h
   ·rename_i us O;cases h;simp only[St.opds,h1 _ _ hv,ih O]
   cases h
  cases h
def XV {α:Type _}{c:Bool}{x:O_ α}{r:α}(h:(bif c then x else n_)=X r):c=t_/\x=X r:=by
 cases c with|true=>exact⟨rfl,h⟩|false=>cases h
def Qlx (h2:∀b u,hp b=X u->look Y.hp b=X u){g:Bool}{m:Mode}{v u:V}{Z:O_ Prop}(h:QtD hp g m v=X (u,Z))(O:(match Z with|none=>True|some p=>p)):Vq Y.hp g v u:=by
 unfold QtD at h;cases m with
 |d=>obtain⟨hd,h⟩:=XV h;cases h;exact .dat _ hd
 |n z=>
  dsimp only at h;split at h
  ·cases h;exact .nil _
  cases h
 |o us=>
  dsimp only at h;split at h
  ·dsimp only at h;split at h
   ·rename_i z rs hb;obtain⟨hg,h⟩:=XV h;subst hg;cases h;exact .own _ _ _ _ _ rfl (h2 _ _ hb) O.1 O.2
   cases h
  cases h
 |f n=>cases h
 |t b=>
  dsimp only at h;split at h
  ·dsimp only at h;split at h
   ·rename_i y u hb;obtain⟨hg,h⟩:=XV h;subst hg;cases h;have O:_=_:=O;subst O;exact .nst _ _ _ rfl (h2 _ _ hb)
   cases h
  cases h
def Qce (h2:∀b u,hp b=X u->look Y.hp b=X u){g:Bool}:∀{ms:L_ Mode} {vs us:L_ V} {k:Prop->Prop},QfG hp g ms vs=X (us,k)->∀{p:Prop},k p->SD Y.hp g vs us/\p:=by
 intro ms
 induction ms with
 |nil=>
  intro vs us k h p O;cases vs with
  |nil=>cases h;exact⟨.nil,O⟩
  |cons=>cases h
 |cons m ms ih=>
  intro vs us k h p O;cases vs with
  |nil=>cases h
  |cons v vs=>
   rw[QfG]at h;split at h
   ·rename_i u Z hu;split at h
    ·rename_i us' k' hus;cases h;cases Z with
     |none=>obtain⟨a,b⟩:=ih hus O;exact⟨.cons (Qlx h2 hu trivial) a,b⟩
     |some q=>obtain⟨a,b⟩:=ih hus O.2;exact⟨.cons (Qlx h2 hu O.1) a,b⟩
    cases h
   cases h
def Qg4 {O:TypeId}{cs:L_ V}{off:Nat}{Z:O_ Prop}{r:Rs}(ok:DI P T)(h:QiI T O cs off Z=X r):
  r.ob=n_/\r.Z=Z/\((Ux P O=X t_/\∃n,BA P O=X n/\Nat.ble (off+n) cs.length=t_/\r.v=.agg ((cs.drop off).take n))\/(Ux P O=X f_/\cs[off]? = X r.v)):=by
 unfold QiI at h;split at h
 ·rename_i hg;split at h
  ·rename_i n hn;obtain⟨h1,h⟩:=XV h;cases h;exact⟨rfl,rfl,.inl ⟨ok.ag hg,n,ok.sz hn,h1,rfl⟩⟩
  cases h
 ·rename_i hg;split at h
  ·rename_i v hv;cases h;exact⟨rfl,rfl,.inr ⟨ok.ag hg,hv⟩⟩
  cases h
 cases h
def YL (P:Program)(C:Xs)(o:Oper)(d:Nat)(r:Rs)(Y:St):Prop:=Stp P C o Y (Y.addF ⟨d,r.v,r.ob⟩)
def YL.put {r:Rs}(O:r.ob=n_)(h:Stp P C o Y (Y.put d r.v)):YL P C o d r Y:=by
 obtain⟨v,ob,Z⟩:=r;cases O;exact h
def QsZ {h:WE}{Tx:TypeId}{x:Operand}{v:V}{r:Rs}(ok:DI P T)(ho:o.op=.load Tx x)(hd:o.dst=X d)(hn:B_ d C)(hx:Y.opd x=X v)
  (h2:∀b u,hp b=X u->look Y.hp b=X u) (e:QtE T h Tx hp v=X r) (hφ:r.holds):YL P C o d r Y:=by
 unfold QtE at e;split at e
 ·rename_i b i off;split at e
  ·rename_i cs hb;split at e
   ·obtain⟨e1,e2,⟨O,n,e4,e5,e6⟩|⟨O,e4⟩⟩:=Qg4 ok e
    ·refine YL.put e1 ?_;rw[e6];exact Stp.loadAL ho hd hn hx (h2 _ _ hb) O e4 e5 rfl
    exact YL.put e1 (Stp.load1L ho hd hn hx (h2 _ _ hb) O e4)
   cases e
  ·rename_i z rs hb;split at e
   ·rename_i r';obtain⟨e1,e2,⟨O,n,e4,e5,e6⟩|⟨O,e4⟩⟩:=Qg4 ok e
    ·rw[Rs.holds,e2]at hφ;refine YL.put e1 ?_;rw[e6];exact Stp.loadAA ho hd hn hx (h2 _ _ hb) O e4 hφ e5 rfl
    rw[Rs.holds,e2]at hφ;exact YL.put e1 (Stp.load1A ho hd hn hx (h2 _ _ hb) O hφ e4)
   cases e
  cases e
 ·rename_i cs;obtain⟨e1,e2,⟨O,n,e4,e5,e6⟩|⟨O,e4⟩⟩:=Qg4 ok e
  ·refine YL.put e1 ?_;rw[e6];rw[DY]at e5;exact Stp.loadAR ho hd hn hx O e4 e5 rfl
  exact YL.put e1 (Stp.load1R ho hd hn hx O e4)
 cases e
def QtF {op:BinOp}{Tx Ty:TypeId}{x y:Operand}{v u:V}{r:Rs}(ok:DI P T)(ho:o.op=.binOp op Tx x y Ty)(h:o.dst=X d)(O:B_ d C)(hx:Y.opd x=X v)(hy:Y.opd y=X u)
  (e:Qv3 T op Tx v u=X r) (hφ:r.holds):YL P C o d r Y:=by
 unfold Qv3 at e;split at e
 ·rename_i k m k' n;replace e:=XV e;obtain⟨e1,e⟩:=e;have:=QrR e1;subst this;split at e
  ·cases e;exact YL.put rfl (Stp.divi ho h O hx hy hφ (.inl ⟨rfl,rfl⟩))
  ·cases e;exact YL.put rfl (Stp.divi ho h O hx hy hφ (.inr ⟨rfl,rfl⟩))
  split at e
  ·rename_i w hw;cases e;exact YL.put rfl (Stp.bin ho h O hx hy hw)
  cases e
 ·replace e:=XV e;obtain⟨e1,e⟩:=e;split at e
  ·cases e;exact YL.put rfl (Stp.eqB ho h O hx hy (ok.bo e1) (.inl ⟨rfl,rfl⟩))
  ·cases e;exact YL.put rfl (Stp.eqB ho h O hx hy (ok.bo e1) (.inr ⟨rfl,rfl⟩))
  cases e
 ·split at e
  ·cases e;exact YL.put rfl (Stp.eqS ho h O hx hy (.inl ⟨rfl,rfl⟩))
  ·cases e;exact YL.put rfl (Stp.eqS ho h O hx hy (.inr ⟨rfl,rfl⟩))
  cases e
 cases e
def QrU {Tx:TypeId}{i:Nat}{x:Operand}{v:V}{r:Rs}(ok:DI P T)(ho:o.op=.fieldAddr Tx x i)(hd:o.dst=X d)(hn:B_ d C)(hx:Y.opd x=X v)
  (e:QrS T Tx i v=X r):YL P C o d r Y:=by
 unfold QrS at e;split at e
 ·split at e
  ·rename_i l O;split at e
   ·rename_i n h;cases e;exact YL.put rfl (Stp.fieldL ho hd hn hx (ok.fo O h))
   cases e
  cases e
 ·split at e
  ·rename_i l O;split at e
   ·rename_i n h;cases e;exact YL.put rfl (Stp.fieldR ho hd hn hx (ok.fo O h) rfl)
   cases e
  cases e
 cases e
def QrV {h:WE}{Tx:TypeId}{x y:Operand}{v u:V}{r:Rs}(ok:DI P T)(ho:o.op=.indexAddr Tx x y)(hd:o.dst=X d)(hn:B_ d C)(hx:Y.opd x=X v)(hy:Y.opd y=X u)
  (h2:∀b u,hp b=X u->look Y.hp b=X u) (e:QrT T h Tx hp v u=X r) (hφ:r.holds):YL P C o d r Y:=by
 unfold QrT at e;split at e
 ·split at e
  ·rename_i p O;split at e
   ·replace e:=XV e;obtain⟨e1,e⟩:=e;obtain⟨pe,pz,pb⟩:=p;have:=Nat.eq_of_beq_eq_true e1;dsimp only at this;subst this;cases e;exact YL.put rfl (Stp.idxS ho hd hn hx hy (ok.es O) hφ.1 hφ.2)
   cases e
  cases e
 ·split at e
  ·rename_i p O;split at e
   ·rename_i z rs hb;replace e:=XV e;obtain⟨e1,e⟩:=e;obtain⟨pe,pz,pb⟩:=p;have:=Nat.eq_of_beq_eq_true e1;dsimp only at this;subst this;cases e;exact YL.put rfl (Stp.idxO ho hd hn hx hy (ok.es O) (h2 _ _ hb) hφ.1 hφ.2)
   cases e
  cases e
 ·split at e
  ·rename_i p O;replace e:=XV e;obtain⟨e1,e⟩:=e;rw[QL,QT,QT]at e1;cases e;exact YL.put rfl (Stp.idxAL ho hd hn hx hy (ok.ar O) e1.1 e1.2 rfl)
  cases e
 ·split at e
  ·rename_i p O;replace e:=XV e;obtain⟨e1,e⟩:=e;rw[QL,QT,QT]at e1;cases e;exact YL.put rfl (Stp.idxAR ho hd hn hx hy (ok.ar O) e1.1 e1.2 rfl)
  cases e
 cases e
def QtG {h:WE}{Tx:TypeId}{x:Operand}{v:V}{r:Rs}(ok:DI P T)(ho:o.op=.call { callee:=.builtin .len,args:=#[x],argTypes:=#[Tx] })(hd:o.dst=X d)(hn:B_ d C)(hx:Y.opd x=X v)
  (e:Qv4 T h Tx v=X r) (hφ:r.holds):YL P C o d r Y:=by
 have es:∀{t:Nat},(look T.es t).isSome=t_->∃p,XZ P t=X p:=λ{t} h=>by
  cases hl:look T.es t with
  |none=>rw[hl]at h;cases h
  |some p=>exact⟨p,ok.es hl⟩
 unfold Qv4 at e;split at e
 ·replace e:=XV e;obtain⟨e1,e⟩:=e;obtain⟨p,O⟩:=es e1;split at e
  ·cases e;exact YL.put rfl (Stp.lenS' ho hd hn hx O hφ)
  cases e;exact YL.put rfl (Stp.lenS ho hd hn hx O)
 ·replace e:=XV e;obtain⟨e1,e⟩:=e;obtain⟨p,O⟩:=es e1;cases e;exact YL.put rfl (Stp.lenO ho hd hn hx O)
 ·replace e:=XV e;obtain⟨e1,e⟩:=e;obtain⟨p,O⟩:=es e1;cases e;exact YL.put rfl (Stp.lenN ho hd hn hx O)
 ·replace e:=XV e;obtain⟨e1,e⟩:=e;cases e;exact YL.put rfl (Stp.lenStr ho hd hn hx (ok.sb e1))
 cases e
def Qqp {mx:Bool}{x y:Operand}{v u:V}{ts:Array TypeId}{r:Rs}(ho:o.op=.call { callee:=.builtin (if mx then .max else .min),args:=#[x,y],argTypes:=ts })(h:o.dst=X d)(O:B_ d C)(hx:Y.opd x=X v)(hy:Y.opd y=X u)
  (e:mmV mx v u=X r):YL P C o d r Y:=by
 unfold mmV at e;split at e
 ·replace e:=XV e;obtain⟨e1,e⟩:=e;have:=QrR e1;subst this;cases mx with
  |true=>cases e;exact YL.put rfl (Stp.max2 ho h O hx hy)
  |false=>cases e;exact YL.put rfl (Stp.min2 ho h O hx hy)
 cases e
def QuI {h:WE}{Tx:TypeId}{x y:Operand}{v u:V}{r:Rs}(ok:DI P T)(ho:o.op=.makeSlice Tx x y)(hd:o.dst=X d)(hn:B_ d C)(hx:Y.opd x=X v)(hy:Y.opd y=X u)
  (e:mkV T h Tx d v u=X r) (hφ:r.holds) (hf:r.ob.isSome=t_->look Y.hp d=n_):YL P C o d r Y:=by
 unfold mkV at e;split at e
 ·split at e
  ·rename_i p O;split at e
   ·rename_i zs hz;split at e
    ·replace e:=XV e;obtain⟨e1,e⟩:=e;simp only[QL,AC]at e1;obtain⟨⟨⟨a1,a2⟩,a3⟩,a4⟩:=e1;cases e;exact Stp.make' ho hd hn hx hy (ok.es O) (ok.zv hz) (Yr a1) (λh0=>by rw[h0]at a2;cases a2) a3 hφ.1 a4 (hf rfl) hφ.2
    cases e
   cases e
  cases e
 cases e
def Gives.own {fn:Nat}{us:L_ V}{z m:Nat}{rows:L_ (L_ V)}(h:QQ P fn us [] (Gives (.own 600 m) [(600,.arr z rows)]))(O:rows.length=m):QQ P fn us [] (Qm6 z rows):=
 h.mono λv hs ⟨a,b⟩=>⟨600,by rw[a,O],b _ _ rfl⟩
def Wc.toData {P:Program}{β:Nat}{f:FuncId}{us:L_ V}{m z:Nat}{rows:L_ (L_ V)}(h:Wc β P f us [] (Gives (.own 600 m) [(600,.arr z rows)]))(hm:rows.length=m):Wc β P f us [] (Gives (.sln β z rows) []):=by
 subst hm;intro S Z w vals hβ hi hG;refine(h S Z w vals hβ hi hG).mono ?_;rintro e w' ⟨x,v,hs',φ',rfl,⟨rfl,hl⟩,ho⟩;have hl:=hl 600 _ rfl;have hφ:∀o B,Z o≠X B:=λo B hB=>by obtain⟨ob,h⟩:=(hi.dom o B hB).2.2;cases h
 have hA:∀k,Aft S φ' w w' k->Aft S (λ_=>n_) w w' k:=λk hk=>⟨hk.1,hk.2.1,λ_ _ h=>by cases h⟩;refine⟨x,.sln β z rows,[],λ_=>n_,rfl,⟨rfl,λ_ _ h=>by cases h⟩,ho.os,ho.tape,ho.output,ho.size,ho.kept,λ_ _ _ _ _ h=>(by cases h),λ_ _ h=>(by cases h),λ_ _ _ h=>(by cases h),λ_ _ _ h=>(by cases h),⟨λ_ _ _ h=>(by cases h),λ_ _ _ _ h=>(by cases h)⟩,?_,λ_ _ h=>(by cases h)⟩;rcases ho.heap 600 _ hl with⟨B,hB,hrep⟩|⟨hn,hz⟩
 ·rcases ho.rep.own_inv with⟨rfl,h0⟩|⟨B',O,hcap,rfl⟩
  ·have:rows=[]:=Np.1 h0;subst this;exact .dat (.sln0 _ _ _ _)
  rw[hB]at O;cases O;obtain⟨rfl,hrl,hok,cs,E,h1,h2,h3⟩:=hrep;have hnew:=ho.new _ B B.b hB B.self (by decide);have hle2:rows.length*B.z<=B.cap*B.z:=Ys _ hcap;refine .dat (.sln β B.b B.off rows.length B.cap B.z rows cs E (Yx hβ hnew) ⟨(ho.lt _ B B.b hB B.self).1,λhlt=>by omega,λ_ _ h=>by cases h⟩ rfl hcap hok h1 (by omega) (λi r hi j v hj=>?_));obtain⟨y,hy,hd⟩:=h3 i r hi j v hj;have:cs.getD (B.off+(i*B.z+j)) undef=y:=by simp[Qb6,hy]
  rw[this];exact hd.mono λk hk=>⟨hA k hk,rfl⟩
 replace hz:rows=[]:=hz;subst hz;rcases ho.rep.own_inv with⟨rfl,h0⟩|⟨B',O,hcap,rfl⟩
 ·exact .dat (.sln0 _ _ _ _)
 rw[hn]at O;cases O
def Qs0 {h:WE}{fn:Nat}{vs:L_ V}{r:Rs}(ok:DI P T)(hE:Jo P C o Y fn vs)(hd:o.dst=X d)(hn:B_ d C)(O:C.pg P)
  (h2:∀b u,hp b=X u->look Y.hp b=X u) (e:QrC P C T h hp d fn vs=X r) (hφ:r.holds) (hf:r.ob.isSome=t_->look Y.hp d=n_):YL P C o d r Y:=by
 unfold QrC at e;replace e:=XV e;obtain⟨e1,e⟩:=e;split at e
 ·split at e
  ·rename_i us k hv;replace e:=XV e;obtain⟨e2,e⟩:=e;cases e;obtain⟨a1,a2⟩:=Qce h2 hv hφ;refine YL.put rfl (Stp.callE hE hd hn O a1 (a2.mono λ_ _ h=>h.1) ?_);rw[WO,QL]at e2;exact e2.imp (λh=>⟨by simpa using h.1,h.2⟩) id
  cases e
 ·split at e
  ·rename_i us k hv;cases e;obtain⟨a1,a2,a3,a4⟩:=Qce h2 hv hφ;exact Stp.callOE hE hd hn O a1 (Gives.own a2 a3) a4 (hf rfl) a3
  cases e
 ·split at e
  ·rename_i us k hv;replace e:=XV e;obtain⟨e2,e⟩:=e;cases e;obtain⟨a1,a2,a3⟩:=Qce h2 hv hφ;exact YL.put rfl (Stp.callE hE hd hn O a1 (Gives.own a2 a3).toData (.inl ⟨by simpa using e2,rfl⟩))
  cases e
 cases e
def QiJ {h:WE}{r:Rs}(ok:DI P T)(hd:o.dst=X d)(hn:B_ d C)(hpg:C.pg P)(h1:∀x u,f x=X u->Y.opd x=X u)(h2:∀b u,hp b=X u->look Y.hp b=X u)
  (e:ev1 P C T h o d f hp=X r) (hφ:r.holds) (hf:r.ob.isSome=t_->look Y.hp d=n_):YL P C o d r Y:=by
 unfold ev1 at e;split at e
 ·cases e;exact hφ Y h1 h2 hf
 split at e
 ·rename_i x O;split at e
  ·rename_i v hv;cases e;exact YL.put rfl (Stp.move O hd hn (h1 _ _ hv))
  cases e
 ·rename_i x O;split at e
  ·rename_i v hv;cases e;exact YL.put rfl (Stp.assign O hd hn (h1 _ _ hv))
  cases e
 ·rename_i c a b O;split at e
  ·rename_i hc;split at e
   ·rename_i v hv;cases e;exact YL.put rfl (Stp.pickT O hd hn (h1 _ _ hc) rfl (h1 _ _ hv))
   cases e
  ·rename_i hc;split at e
   ·rename_i v hv;cases e;exact YL.put rfl (Stp.pickF O hd hn (h1 _ _ hc) rfl (h1 _ _ hv))
   cases e
  cases e
 ·rename_i op Tx x y Ty O;split at e
  ·rename_i v hv;split at e
   ·rename_i u hu;exact QtF ok O hd hn (h1 _ _ hv) (h1 _ _ hu) e hφ
   cases e
  cases e
 ·rename_i op Tx x O;split at e
  ·rename_i v hv;unfold unV at e;split at e
   ·split at e
    ·cases e;exact YL.put rfl (Stp.not O hd hn (h1 _ _ hv))
    cases e
   ·split at e
    ·cases e;exact YL.put rfl (Stp.neg O hd hn (h1 _ _ hv))
    cases e
   cases e
  cases e
 ·rename_i Tx O;split at e
  ·rename_i zs hz;cases e;exact Stp.alloc O hd hn (ok.zv hz) (hf rfl)
  cases e
 ·rename_i Tx x O;split at e
  ·rename_i cs hv;cases e;exact Stp.box O hd hn (h1 _ _ hv) (.inr ⟨_,rfl⟩) (hf rfl)
  ·rename_i v hne hv;replace e:=XV e;obtain⟨e1,e⟩:=e;cases e;have hc:v.cells=[v]:=by cases v<;>first|rfl|exact absurd rfl (hne _)
   have:=Stp.box (P:=P) O hd hn (h1 _ _ hv) (.inl e1) (hf rfl);rw[hc]at this;exact this
  cases e
 ·rename_i Tx x O;split at e
  ·rename_i v hv;exact QsZ ok O hd hn (h1 _ _ hv) h2 e hφ
  cases e
 ·rename_i Tx x i O;split at e
  ·rename_i v hv;exact QrU ok O hd hn (h1 _ _ hv) e
  cases e
 ·rename_i Tx x y O;split at e
  ·rename_i v hv;split at e
   ·rename_i u hu;exact QrV ok O hd hn (h1 _ _ hv) (h1 _ _ hu) h2 e hφ
   cases e
  cases e
 ·rename_i Tx parts O;split at e
  ·rename_i qs hq;split at e
   ·rename_i zs hz;replace e:=XV e;obtain⟨e1,e⟩:=e;split at e
    ·rename_i pl hpl;split at e
     ·rename_i vs hvs;cases e;exact YL.put rfl (Stp.build O hd hn (ok.zv hz) (ok.sp hpl) (GS h1 hq) e1 hvs)
     cases e
    split at e
    ·rename_i p hp';split at e
     ·rename_i vs hvs;cases e;exact YL.put rfl (Stp.buildA O hd hn (ok.zv hz) (ok.ar hp') (GS h1 hq) e1 hvs)
     cases e
    cases e
   cases e
  cases e
 ·rename_i Tx n parts O;split at e
  ·rename_i qs hq;split at e
   ·rename_i p hp';split at e
    ·rename_i zs hz;replace e:=XV e;obtain⟨e1,e⟩:=e;split at e
     ·rename_i vs hvs;simp only[QL,AC]at e1;obtain⟨⟨⟨e3,e4⟩,e5⟩,e6⟩:=e1;have e4:=Yr e4;split at e
      ·replace e:=XV e;obtain⟨e2,e⟩:=e;cases e;rw[QL]at e2;exact YL.put rfl (Stp.buildSliceD _ O hd hn (ok.es hp') (ok.zv hz) e4 (λh0=>by rw[h0]at e5;cases e5) (JT e6) (GS h1 hq) e3 hvs e2.1 e2.2 rfl)
      replace e:=XV e;obtain⟨e2,e⟩:=e;cases e;rw[QL]at e2;exact Stp.buildSlice O hd hn (ok.es hp') (ok.zv hz) e4 (λh0=>by rw[h0]at e5;cases e5) (JT e6) (GS h1 hq) e3 hvs e2.1 e2.2 rfl (hf rfl)
     cases e
    cases e
   cases e
  cases e
 ·rename_i x i O;split at e
  ·rename_i vs hv;split at e
   ·rename_i v hv';cases e;exact YL.put rfl (Stp.extract O hd hn (h1 _ _ hv) hv')
   cases e
  cases e
 ·rename_i x O;split at e
  ·rename_i hv;cases e;exact YL.put rfl (Stp.nilCheckL O hd hn (h1 _ _ hv))
  cases e
 ·rename_i Tx x O;split at e
  ·rename_i v hv;replace e:=XV e;obtain⟨e1,e⟩:=e;cases e;exact YL.put rfl (Stp.makeInterface O hd hn (h1 _ _ hv) (ok.cc e1))
  cases e
 ·rename_i x S Tx O;split at e
  ·rename_i t v hv;replace e:=XV e;obtain⟨e1,e⟩:=e;rw[QL]at e1;have:=Yr e1.1;subst this;cases e;exact YL.put rfl (Stp.typeAssert O hd hn (h1 _ _ hv) (ok.cc e1.2))
  cases e
 ·rename_i fn first caps O
  split at e
  ·rename_i vs hv;split at e
   ·rename_i us hu;cases e;exact YL.put rfl (Stp.makeFunc O hd hn (Ua h1 hv) (Ua h1 hu))
   cases e
  cases e
 ·rename_i Tx x y O;split at e
  ·rename_i s hs;split at e
   ·rename_i k j hj;split at e
    ·replace e:=XV e;obtain⟨e1,e⟩:=e;cases e;exact YL.put rfl (Stp.idxStr' O hd hn (h1 _ _ hs) (h1 _ _ hj) (ok.sb e1) hφ)
    cases e
   cases e
  cases e
 ·rename_i Tx x y O;split at e
  ·rename_i v hv;split at e
   ·rename_i u hu;exact QuI ok O hd hn (h1 _ _ hv) (h1 _ _ hu) e hφ hf
   cases e
  cases e
 ·rename_i O;cases e;exact Stp.makeMap O hd hn (hf rfl)
 ·rename_i c O;obtain⟨cl,ags,ts⟩:=c;split at e
  ·rename_i hc;dsimp only at hc e;subst hc;split at e
   ·rename_i x y hxy;split at e
    ·rename_i v hv;split at e
     ·rename_i u hu;have ea:ags=#[x,y]:=by rw[<-Qd2 (xs:=ags),hxy]
      subst ea;exact Qqp (mx:=t_) O hd hn (h1 _ _ hv) (h1 _ _ hu) e
     cases e
    cases e
   cases e
  ·rename_i hc;dsimp only at hc e;subst hc;split at e
   ·rename_i x y hxy;split at e
    ·rename_i v hv;split at e
     ·rename_i u hu;have ea:ags=#[x,y]:=by rw[<-Qd2 (xs:=ags),hxy]
      subst ea;exact Qqp (mx:=f_) O hd hn (h1 _ _ hv) (h1 _ _ hu) e
     cases e
    cases e
   cases e
  ·rename_i hc;dsimp only at hc e;subst hc;split at e
   ·rename_i x hx;split at e
    ·rename_i Tx hT;split at e
     ·rename_i v hv;have ea:ags=#[x]:=by rw[<-Qd2 (xs:=ags),hx]
      have et:ts=#[Tx]:=by rw[<-Qd2 (xs:=ts),hT]
      subst ea;subst et;exact QtG ok O hd hn (h1 _ _ hv) e hφ
     cases e
    cases e
   cases e
  ·rename_i x hc;dsimp only at hc e;subst hc;split at e
   ·rename_i fn fs cs hx;split at e
    ·rename_i vs hv;have e1:XK T.en fn=t_:=by unfold QrC at e;exact(XV e).1
     exact Qs0 ok (Jo.clo O (h1 _ _ hx) (ok.en e1) (Ua h1 hv)) hd hn hpg h2 e hφ hf
    cases e
   cases e
  cases e
 cases e
end
inductive Fr where
 |seq (y:Code)
 |blk (id:Nat)
 |cut (K:St->Prop)
inductive Pt where
 |c (c:Code)
 |o (ops:Array Oper) (l:List Oper)
 |x (e:Exit)
section
variable (P:Program)(C:Xs)(Q:Exit->St->Prop)
def unw : L_ Fr->Exit->St->Prop
 |[]=>Q|.seq y::k=>QgT (λY=>Yz P C y Y (unw k)) (unw k)|.blk id::k=>Qb8 id (unw k)|.cut K::k=>QgT K (unw k)
def AK (pt:Pt)(ks:L_ Fr)(Y:St):Prop:=match pt with|.c c=>Yz P C c Y (unw P C Q ks)|.o ops l=>AL P C ops l Y (unw P C Q ks)|.x e=>∀a w,R C Y a w->up C (unw P C Q ks) e a w
end
section
variable {P:Program}{C:Xs}{Q:Exit->St->Prop}{Y σ':St}{ks:L_ Fr}
def AK.weaken {pt:Pt}(h:∀a w,R C Y a w->R C σ' a w)(k:AK P C Q pt ks σ'):AK P C Q pt ks Y:=by
 cases pt with|c c=>exact λa w O=>k a w (h a w O)|o ops l=>exact λa w O=>k a w (h a w O)|x e=>exact λa w O=>k a w (h a w O)
def AK.done {e:Exit}(h:Q e Y):AK P C Q (.x e) [] Y:=λa w O=>⟨Y,h,O⟩
def AK.met {K:St->Prop}(h:K Y):AK P C Q (.x .normal) (.cut K::ks) Y:=λa w O=>⟨Y,h,O⟩
def AK.seq {x y:Code}(h:AK P C Q (.c x) (.seq y::ks) Y):AK P C Q (.c (.seq x y)) ks Y:=Yz.seq h
def AK.block {id:Nat}{x:Code}(h:AK P C Q (.c x) (.blk id::ks) Y):AK P C Q (.c (.block id x)) ks Y:=Yz.block h
def AK.region {id:Nat}{ops:Array Oper}(h:AK P C Q (.o ops ops.toList) ks Y):AK P C Q (.c (.region id ops f_)) ks Y:=Yz.region h
def AK.skip (h:AK P C Q (.x .normal) ks Y):AK P C Q (.c .skip) ks Y:=λa w O=>wpIn_skip (h a w O)
def AK.label {l:Nat}(h:AK P C Q (.x .normal) ks Y):AK P C Q (.c (.label l)) ks Y:=λa w O=>wpIn_label (h a w O)
def AK.exit {id:Nat}(h:AK P C Q (.x (.exit id)) ks Y):AK P C Q (.c (.exit id)) ks Y:=λa w O=>wpIn_exit (h a w O)
def AK.ret (h:AK P C Q (.x .ret) ks Y):AK P C Q (.c .ret) ks Y:=λa w O=>wpIn_ret (h a w O)
def AK.nil {ops:Array Oper}(h:AK P C Q (.x .normal) ks Y):AK P C Q (.o ops []) ks Y:=h
def AK.popSeq {y:Code}(h:AK P C Q (.c y) ks Y):AK P C Q (.x .normal) (.seq y::ks) Y:=λa w O=>⟨Y,h,O⟩
def AK.popBlk {id:Nat}(h:AK P C Q (.x .normal) ks Y):AK P C Q (.x .normal) (.blk id::ks) Y:=h
def AK.exSeq {y:Code}{i:Nat}(h:AK P C Q (.x (.exit i)) ks Y):AK P C Q (.x (.exit i)) (.seq y::ks) Y:=h
def AK.exCut {K:St->Prop}{i:Nat}(h:AK P C Q (.x (.exit i)) ks Y):AK P C Q (.x (.exit i)) (.cut K::ks) Y:=h
def AK.exBlk {i j:Nat}(e:Nat.beq i j=t_)(h:AK P C Q (.x .normal) ks Y):AK P C Q (.x (.exit i)) (.blk j::ks) Y:=λa w O=>
 let ⟨σ',h1,h2⟩:=h a w O;⟨σ',QAc e h1,h2⟩
def AK.exBlk' {i j:Nat}(e:Nat.beq i j=f_)(h:AK P C Q (.x (.exit i)) ks Y):AK P C Q (.x (.exit i)) (.blk j::ks) Y:=λa w O=>
 let ⟨σ',h1,h2⟩:=h a w O;⟨σ',QAd e h1,h2⟩
def AK.retPop {f:Fr}(h:AK P C Q (.x .ret) ks Y):AK P C Q (.x .ret) (f::ks) Y:=by
 cases f<;>exact h
def AK.meet {x y:Code}(K:St->Prop)(h:AK P C Q (.c x) (.cut K::ks) Y)(O:∀σ',K σ'->AK P C Q (.c y) ks σ'):AK P C Q (.c (.seq x y)) ks Y:=Yz.seqK K h O
def AK.meetX {c:Code}(K:St->Prop)(hx:AK P C Q (.c c) (.cut K::ks) Y)(hy:∀σ',K σ'->AK P C Q (.x .normal) ks σ'):AK P C Q (.c c) ks Y:=by
 intro a w hR;refine wpIn_mono (hx a w hR) ?_;rintro e a w ⟨σ',h,O⟩;cases e<;>first|exact hy σ' h a w O|exact⟨σ',h,O⟩
def QrW {τ ρ:Type}(E:τ->St->Prop)(h:ρ->Exit->St->Prop)(o:τ⊕ρ):Exit->St->Prop:=
 QgT (λσ'=>∃O,o=.inl O/\E O σ') (λe σ'=>∃r,o=.inr r/\h r e σ')
def QAA {τ ρ:Type}{E:τ->St->Prop}{O:ρ->Exit->St->Prop}{o:τ⊕ρ}{s':τ}(h:o=.inl s')(he:E s' Y):AK P C (QrW E O o) (.x .normal) [] Y:=AK.done ⟨s',h,he⟩
def QAB {τ ρ:Type}{E:τ->St->Prop}{O:ρ->Exit->St->Prop}{o:τ⊕ρ}{r:ρ}{i:Nat}(h:o=.inr r)(he:O r (.exit i) Y):AK P C (QrW E O o) (.x (.exit i)) [] Y:=AK.done ⟨r,h,he⟩
def QAC {τ ρ:Type}{E:τ->St->Prop}{O:ρ->Exit->St->Prop}{o:τ⊕ρ}{r:ρ}(h:o=.inr r)(he:O r .ret Y):AK P C (QrW E O o) (.x .ret) [] Y:=AK.done ⟨r,h,he⟩
def AK.loop {τ ρ:Type}{body:τ->O_ (τ⊕ρ)}{c:Code}(E:τ->St->Prop)(O:ρ->Exit->St->Prop){s0:τ}{r:ρ}(hr:Qx body s0=X r)(h0:E s0 Y)
  (round:∀s o Y,E s Y->body s=X o->AK P C (QrW E O o) (.c c) [] Y) (hQ:∀e σ',O r e σ'->AK P C Q (.x e) ks σ'):AK P C Q (.c (.loop c)) ks Y:=by
 intro a w hR;refine wpIn_mono (Yz.loop (Q:=λe σ'=>O r e σ') E O round (Qd8.1 hr) h0 (λe σ' h=>h) a w hR) ?_;rintro e a' w' ⟨σ',hp,hR'⟩;exact hQ e σ' hp a' w' hR'
end
def V.isUnd : V->Bool
 |.lit (.tuple a)=>a.isEmpty|_=>f_
def V.isUnd_eq {v:V}(h:v.isUnd=t_):v=.lit undef:=by
 unfold V.isUnd at h;split at h
 ·rename_i a;rw[Array.isEmpty_iff]at h;subst h;rfl
 cases h
inductive Ent where
 |fn
 |clo
 |me (f:Nat)
 |mv (f e:Nat)
def Dl : L_ (Nat×Nat)->Nat->O_ Nat
 |[],_=>n_|(b,h)::r,a=>bif Nat.beq h a then X b else Dl r a
def trC (bk:Nat->O_ Nat):V->O_ V
 |.own a n=>match bk a with|some b=>X (.own b n)|none=>n_
 |.loc a i d=>match bk a with|some b=>X (.loc b i d)|none=>n_
 |.map a=>match bk a with|some b=>X (.map b)|none=>n_
 |.ifc t x=>match trC bk x with|some y=>X (.ifc t y)|none=>n_
 |v=>bif v.datA then X v else n_
def trL (bk:Nat->O_ Nat):L_ V->O_ (L_ V)
 |[]=>X []|v::vs=>match trC bk v with
  |some u=>match trL bk vs with|some us=>X (u::us)|none=>n_
  |none=>n_
def trV (bk:Nat->O_ Nat):V->O_ V
 |.agg h=>bif (V.agg h).datA then X (.agg h)else match trL bk h with|some us=>X (.agg us)|none=>n_
 |.tup h=>bif (V.tup h).datA then X (.tup h)else match trL bk h with|some us=>X (.tup us)|none=>n_
 |.clo fn fs h=>match trL bk fs with
  |some us=>match trL bk h with|some O=>X (.clo fn us O)|none=>n_
  |none=>n_
 |v=>trC bk v
def QrX (bk:Nat->O_ Nat):L_ V->O_ (L_ V)
 |[]=>X []|v::vs=>match trV bk v with
  |some u=>match QrX bk vs with|some us=>X (u::us)|none=>n_
  |none=>n_
def trO (bk:Nat->O_ Nat):Ob->O_ Ob
 |.var h=>match QrX bk h with|some us=>X (.var us)|none=>n_
 |.lp l K h q=>match QrX bk h with|some us=>X (.lp l K us q)|none=>n_
 |.arr z rs=>X (.arr z rs)|.map l=>X (.map l)|.grp z l O=>X (.grp z l O)|.tbl A z rs=>X (.tbl A z rs)|_=>n_
def Qyg (bk:Nat->O_ Nat):Mode->V->O_ V
 |.n z,.lit (.slice n_ 0 0)=>X (.sl z [])|.d,v=>trV bk v|.f n,.agg h=>match trL bk (h.set n .J)with
  |some us=>match us[n]? with|some .J=>X (.agg us)|_=>n_
  |none=>n_
 |_,_=>n_
def PQ (bk:Nat->O_ Nat):L_ Mode->L_ V->O_ (L_ V)
 |[],[]=>X []|m::ms,v::vs=>match Qyg bk m v with
  |some u=>match PQ bk ms vs with|some us=>X (u::us)|none=>n_
  |none=>n_
 |_,_=>n_
def CS (bk:Nat->O_ Nat)(src:Nat->O_ Ob):L_ (Nat×Nat)->O_ H_
 |[]=>X []|(d,s)::r=>match src s with
  |some ob=>match trO bk ob with
   |some ob'=>match CS bk src r with|some l=>X ((d,ob')::l)|none=>n_
   |none=>n_
  |none=>n_
def Qv5 (P:Program)(T:EJ)(Y:St)(Z:Prop)(c:Call):Ent->O_ (Nat×L_ V×Prop)
 |.fn=>match c.callee with
  |.value (.func f)=>bif XK T.en f then match evs Y.opd c.args.toList with|some vs=>X (f,vs,Z)|none=>n_
   else n_
  |_=>n_
 |.clo=>match c.callee with
  |.value x=>match Y.opd x with
   |some (.clo (.func f) fs h)=>bif XK T.en f then match evs Y.opd c.args.toList with|some vs=>X (f,fs++(vs++h),Z)|none=>n_
    else n_
   |_=>n_
  |_=>n_
 |.me f=>match c.callee with
  |.invoke x name=>match Y.opd x with
   |some (.ifc t u)=>bif XK T.en f then match evs Y.opd c.args.toList with|some vs=>X (f,u::vs,Z/\((AG P t name=X (f,t_)/\QlT P t=t_)\/(AG P t name=X (f,f_)/\Qcc P t=t_)))|none=>n_
    else n_
   |_=>n_
  |_=>n_
 |.mv f e=>match c.callee with
  |.invoke x name=>match Y.opd x with
   |some (.ifc t (.loc b 0 off))=>match look Y.hp b with
    |some (.var h)=>match h[off]? with
     |some r=>bif XK T.en f then match evs Y.opd c.args.toList with|some vs=>X (f,r::vs,Z/\(AG P t name=X (f,f_)/\Qec P t e=t_/\Ux P e=X f_))|none=>n_
      else n_
     |none=>n_
    |_=>n_
   |_=>n_
  |_=>n_
def cmV (P:Program)(Y:St)(Z:Prop)(d f:Nat)(vs:L_ V)(M N:L_ (Nat×Nat))(dead:L_ Nat)(ms:L_ Mode)(outs:H_)(r:V):O_ (St×Prop):=
 bif DA Y M N dead outs&&UZ (M.map Prod.fst)&&UZ (N.map Prod.fst)then match PQ (Dl M) ms vs with
  |some us=>match CS (Dl M) (look Y.hp) M with
   |some h=>match CS (Dl N) (look outs) N with
    |some O=>match trV (Dl N) r with|some r'=>X ((Y.after dead O).put d r',Z/\QQ P f us h (Gives r outs))|none=>n_
    |none=>n_
   |none=>n_
  |none=>n_
 else n_
inductive Cv where
 |n (k:Nat)
 |o (h:WE)
 |v (h:WE) (ms:List (Option Nat)) (v:V)
 |br (b:Bool)
 |st (r:List V) (rs:List (List V))
 |app (rs:List (List V)) (m:Nat)
 |x (g:St->St)
 |say (t:Nat) (v:V)
 |sayO (b:Nat) (ob:Ob)
 |adopt (t b z:Nat)
 |denil (t:Nat) (ms:List (Option Nat))
 |denilO (b:Nat) (ms:List (Option Nat))
 |ren (o o':Nat)
 |kill (b:Nat)
 |keep (ts os:List Nat)
 |frz (b:Nat) (us:List (List V)) (ts os:List Nat)
 |adoptO (p i b z:Nat)
 |cm (en:Ent) (M N:List (Nat×Nat)) (dead:List Nat) (ms:List Mode) (outs:List (Nat×Ob)) (r:V)
structure Cfg where
 pt:Pt
 ks:List Fr
 Y:St
 Z:Prop
def Qcf (Z:Prop):O_ Prop->Prop
 |none=>Z|some p=>Z/\p
def ctl : Pt->L_ Fr->St->O_ (Pt×L_ Fr)
 |.c (.seq x y),ks,_=>X (.c x,.seq y::ks)|.c (.block id x),ks,_=>X (.c x,.blk id::ks)|.c (.region _ ops f_),ks,_=>X (.o ops ops.toList,ks)|.c .skip,ks,_=>X (.x .normal,ks)|.c (.label _),ks,_=>X (.x .normal,ks)|.c (.exit i),ks,_=>X (.x (.exit i),ks)|.c .ret,ks,_=>X (.x .ret,ks)|.c (.cond c x y),ks,Y=>match Y.opd c with|some (.b t_)=>X (.c x,ks)|some (.b f_)=>X (.c y,ks)|_=>n_
 |.o _ [],ks,_=>X (.x .normal,ks)|.x .normal,.seq y::ks,_=>X (.c y,ks)|.x .normal,.blk _::ks,_=>X (.x .normal,ks)|.x (.exit i),.seq _::ks,_=>X (.x (.exit i),ks)|.x (.exit i),.cut _::ks,_=>X (.x (.exit i),ks)|.x (.exit i),.blk j::ks,_=>bif Nat.beq i j then X (.x .normal,ks)else X (.x (.exit i),ks)|.x .ret,_::ks,_=>X (.x .ret,ks)|_,_,_=>n_
def UA (ops:Array Oper)(o:Oper)(f:Nat->O_ V):O_ Bool:=match o.guard with
 |none=>X t_|some (j,t)=>match ops[j]? with
  |some h=>match h.dst with
   |some d=>match f d with|some (.b t_)=>X t|some (.b f_)=>X (!t)|some v=>bif v.isUnd then X f_ else n_|none=>n_
   |none=>n_
  |none=>n_
def QuJ (T:EJ)(O:TypeId)(Y:St)(Z:Prop):V->V->O_ (St×Prop)
 |.loc b i off,v=>match look Y.hp b with
  |some (.var h)=>match i with
   |0=>match look T.sz O with|some n=>bif v.isV&&Nat.beq v.cells.length n&&v.cells.all V.one&&Nat.ble (off+n) h.length then X (Y.set b (.var (Wb h off v.cells)),Z)else n_|none=>n_
   |_=>n_
  |_=>n_
 |_,_=>n_
def storeA (T:EJ)(h:TypeId)(Y:St)(Z:Prop)(r:L_ V)(rs':L_ (L_ V)):V->V->O_ (St×Prop)
 |.loc b i off,v=>match look Y.hp b with
  |some (.arr z rs)=>match look T.sz h with
    |some n=>bif v.isV&&Nat.beq v.cells.length n&&v.cells.all V.one&&v.cells.all V.dat&&Nat.ble (off+n) z then
     X (Y.set b (.arr z rs'),Z/\(rs[i]? = X r/\rs.set i (Wb r off v.cells)=rs'))else n_
    |none=>n_
  |_=>n_
 |_,_=>n_
def Yk (P:Program)(C:Xs)(T:EJ)(n:Nat)(h:WE)(O:O_ (L_ (O_ Nat)×V))(o:Oper)(Y:St)(Z:Prop):O_ (St×Prop):=match o.dst with
 |some d=>bif Nat.ble (d+1) n then match ev1 P C T h o d Y.opd (look Y.hp)with
  |some ⟨v,n_,q⟩=>match O with|none=>X (Y.put d v,Qcf Z q)|some (ms,u)=>X (Y.put d u,Qcf Z q/\v.denil ms=u)
  |some ⟨v,X ob,q⟩=>match look Y.hp d with
   |none=>match O with|none=>X ((Y.set d ob).put d v,Qcf Z q)|some (ms,u)=>X ((Y.set d ob).put d u,Qcf Z q/\v.denil ms=u)
   |some _=>n_
  |none=>n_
  else n_
 |none=>match o.op with
  |.store Tx x y=>match Y.opd x with
   |some p=>match Y.opd y with|some v=>QuJ T Tx Y Z p v|none=>n_
   |none=>n_
  |_=>n_
def Qv6 (T:EJ)(n:Nat)(Y:St)(Z:Prop)(rs':L_ (L_ V))(m:Nat)(d Tx Ty:Nat):V->V->O_ (St×Prop)
 |.own b k,y=>match look Y.hp b with
  |some (.arr z rs)=>match look T.es Tx with
   |some (e,z',by_)=>match look T.zv e with
    |some zs=>bif (look T.es Ty).isSome&&Nat.ble (d+1) n&&!(Nat.ble 639 b)&&Nat.beq z z'&&Nat.beq zs.length z&&!(Nat.beq z 0)&&Nat.ble by_ 32768 then match y with
     |.sl h us=>bif Nat.beq z h then X (Y.app b z d m rs',Z/\(rs.length=k/\decide (k+us.length<=4294967296)=t_/\rs++us=rs'/\k+us.length=m))else n_|.own b' O=>match look Y.hp b' with|some (.arr h us)=>bif Nat.beq z h then X (Y.app b z d m rs',Z/\(rs.length=k/\decide (k+O<=4294967296)=t_/\us.length=O/\rs++us=rs'/\k+O=m))else n_|_=>n_
     |.lit (.slice n_ 0 0)=>X (Y.app b z d k rs,Z/\(rs.length=k/\decide (k<=4294967296)=t_))|_=>n_
     else n_
    |none=>n_
   |none=>n_
  |_=>n_
 |_,_=>n_
def Xz {α:Type}(l:L_ (Nat×α)):L_ Nat->O_ (L_ (Nat×α))
 |[]=>X []|t::h=>match look l t with
  |some v=>match Xz l h with|some r=>X ((t,v)::r)|none=>n_
  |none=>n_
def V.frzC (b:Nat)(v s:V):V:=match v with|.own o k=>bif Nat.beq o b then s else .own o k|v=>v
def V.frz (b:Nat)(v s:V):V:=match v with|.agg h=>.agg (h.map λv=>v.frzC b s)|v=>v.frzC b s
def QrY (b:Nat)(rs us:L_ (L_ V)):V->Prop
 |.own o k=>bif Nat.beq o b then k<=rs.length/\rs.take k=us else True|_=>True
def Qg5 (b:Nat)(rs us:L_ (L_ V)):L_ V->Prop
 |[]=>True|.own o k::r=>QrY b rs us (.own o k)/\Qg5 b rs us r|_::r=>Qg5 b rs us r
def Qv7 (b:Nat)(rs us:L_ (L_ V)):V->Prop
 |.agg h=>Qg5 b rs us h|v=>QrY b rs us v
def V.isOwn (b:Nat):V->Bool
 |.own o _=>Nat.beq o b|_=>f_
def V.frzB (b:Nat):V->Bool
 |.agg h=>h.all λc=>c.freeC b||c.isOwn b|v=>v.freeC b||v.isOwn b
def QlU (b:Nat)(s:V)(rs us:L_ (L_ V))(σ0:St):L_ Nat->St->Prop->O_ (St×Prop)
 |[],Y,Z=>X (Y,Z)|t::h,Y,Z=>match look σ0.fr t with|some v=>bif v.frzB b then QlU b s rs us σ0 h (Y.put t (v.frz b s)) (Z/\Qv7 b rs us v)else n_|none=>n_
def QrZ (b:Nat)(s:V)(rs us:L_ (L_ V))(σ0:St):L_ Nat->St->Prop->O_ (St×Prop)
 |[],Y,Z=>X (Y,Z)|p::O,Y,Z=>match look σ0.hp p with
  |some (.var h)=>bif !(Nat.beq p b)&&h.all (λc=>c.freeC b||c.isOwn b)&&(look Y.hp p).isSome then QrZ b s rs us σ0 O (Y.set p (.var (h.map λv=>v.frzC b s))) (Z/\Qg5 b rs us h)else n_
  |_=>n_
def Qv8 (P:Program)(C:Xs)(T:EJ)(n:Nat):Cv->Pt->L_ Fr->St->Prop->O_ Cfg
 |.o h,.o ops (o::l),ks,Y,Z=>match UA ops o (look Y.fr)with
  |some true=>match Yk P C T n h n_ o Y Z with|some (σ',φ')=>X ⟨.o ops l,ks,σ',φ'⟩|none=>n_
  |_=>n_
 |.v h ms u,.o ops (o::l),ks,Y,Z=>match UA ops o (look Y.fr)with
  |some true=>match Yk P C T n h (X (ms,u)) o Y Z with|some (σ',φ')=>X ⟨.o ops l,ks,σ',φ'⟩|none=>n_
  |_=>n_
 |.st r rs,.o ops (o::l),ks,Y,Z=>match UA ops o (look Y.fr)with
  |some true=>match o.dst with
   |none=>match o.op with
    |.store Tx x y=>match Y.opd x with
     |some p=>match Y.opd y with
      |some v=>match storeA T Tx Y Z r rs p v with|some (σ',φ')=>X ⟨.o ops l,ks,σ',φ'⟩|none=>n_
      |none=>n_
     |none=>n_
    |_=>n_
   |some _=>n_
  |_=>n_
 |.app rs m,.o ops (o::l),ks,Y,Z=>match UA ops o (look Y.fr)with
  |some true=>match o.dst with
   |some d=>match o.op with
    |.call c=>match c.callee with
     |.builtin .append=>match c.args.toList with
      |[x,y]=>match c.argTypes.toList with
       |[Tx,Ty]=>match Y.opd x with
        |some p=>match Y.opd y with
         |some v=>match Qv6 T n Y Z rs m d Tx Ty p v with|some (σ',φ')=>X ⟨.o ops l,ks,σ',φ'⟩|none=>n_
         |none=>n_
        |none=>n_
       |_=>n_
      |_=>n_
     |_=>n_
    |_=>n_
   |none=>n_
  |_=>n_
 |.x g,.o ops (o::l),ks,Y,Z=>match UA ops o (look Y.fr)with|some true=>X ⟨.o ops l,ks,g Y,Z/\Stp P C o Y (g Y)⟩|_=>n_
 |.cm en M N dead ms outs r,.o ops (o::l),ks,Y,Z=>match UA ops o (look Y.fr)with
  |some true=>match o.dst with
   |some d=>bif Nat.ble (d+1) n then match o.op with
    |.call c=>match Qv5 P T Y Z c en with
     |some (f,vs,φ1)=>match cmV P Y φ1 d f vs M N dead ms outs r with|some (σ',φ')=>X ⟨.o ops l,ks,σ',φ'⟩|none=>n_
     |none=>n_
    |_=>n_
    else n_
   |none=>n_
  |_=>n_
 |.br b,.c (.cond c x y),ks,Y,Z=>match Y.opd c with
  |some (.b t)=>match b with|true=>X ⟨.c x,ks,Y,Z/\t=t_⟩|false=>X ⟨.c y,ks,Y,Z/\t=f_⟩
  |_=>n_
 |.say t v,pt,ks,Y,Z=>match look Y.fr t with|some u=>X ⟨pt,ks,Y.put t v,Z/\u=v⟩|none=>n_
 |.sayO b ob,pt,ks,Y,Z=>match look Y.hp b with|some u=>X ⟨pt,ks,Y.set b ob,Z/\u=ob⟩|none=>n_
 |.adopt t b z,pt,ks,Y,Z=>match look Y.fr t with
  |some (.lit (.slice n_ 0 0))=>match look Y.hp b with|none=>bif Nat.ble 639 b then n_ else X ⟨pt,ks,(Y.set b (.arr z [])).put t (.own b 0),Z⟩|some _=>n_
  |_=>n_
 |.denil t ms,pt,ks,Y,Z=>match look Y.fr t with|some v=>X ⟨pt,ks,Y.put t (v.denil ms),Z⟩|none=>n_
 |.denilO b ms,pt,ks,Y,Z=>match look Y.hp b with|some (.var O)=>X ⟨pt,ks,Y.set b (.var (DZ ms O)),Z⟩|_=>n_
 |.ren o o',pt,ks,Y,Z=>bif !(Nat.ble 635 o)&&!(Nat.ble 635 o')&&(look Y.hp o').isNone then X ⟨pt,ks,Y.ren o o',Z⟩else n_|.kill b,pt,ks,Y,Z=>X ⟨pt,ks,Y.kill b,Z⟩|.frz b us ts os,pt,ks,Y,Z=>match look Y.hp b with
  |some (.arr z rs)=>bif !(Nat.ble 635 b)then match QlU b (.sl z us) rs us Y ts (Y.kill b) True with
   |some (σ1,φ1)=>match QrZ b (.sl z us) rs us Y os σ1 φ1 with|some (σ2,φ2)=>X ⟨pt,ks,σ2,Z/\φ2⟩|none=>n_
   |none=>n_
   else n_
  |_=>n_
 |.adoptO p i b z,pt,ks,Y,Z=>match look Y.hp p with
  |some (.var O)=>match O[i]? with
   |some (.lit (.slice n_ 0 0))=>match look Y.hp b with|none=>bif Nat.beq p b||Nat.ble 639 b then n_ else X ⟨pt,ks,(Y.set b (.arr z [])).set p (.var (O.set i (.own b 0))),Z⟩|some _=>n_
   |_=>n_
  |_=>n_
 |.keep ts os,pt,ks,Y,Z=>match Xz Y.fr ts with
  |some fr=>match Xz Y.hp os with|some hp=>bif St.closed ⟨fr,hp⟩then X ⟨pt,ks,⟨fr,hp⟩,Z⟩else n_|none=>n_
  |none=>n_
 |_,_,_,_,_=>n_
def plain (P:Program)(C:Xs)(T:EJ)(n:Nat):Nat->Pt->L_ Fr->St->Prop->O_ Cfg
 |0,pt,ks,Y,Z=>X ⟨pt,ks,Y,Z⟩|k+1,.o ops (o::l),ks,Y,Z=>match UA ops o (look Y.fr)with
  |some true=>match Yk P C T n .no n_ o Y Z with|some (σ',φ')=>plain P C T n k (.o ops l) ks σ' φ'|none=>n_
  |some false=>match o.dst with|some d=>bif Nat.ble (d+1) n then plain P C T n k (.o ops l) ks (Y.put d (.lit undef)) Z else n_|none=>plain P C T n k (.o ops l) ks Y Z
  |none=>n_
 |k+1,pt,ks,Y,Z=>match ctl pt ks Y with|some (O,h)=>plain P C T n k O h Y Z|none=>n_
def go (P:Program)(C:Xs)(T:EJ)(n:Nat):L_ Cv->Pt->L_ Fr->St->Prop->O_ Cfg
 |[],pt,ks,Y,Z=>X ⟨pt,ks,Y,Z⟩|.n k::ds,pt,ks,Y,Z=>match plain P C T n k pt ks Y Z with|some ⟨O,h,σ',φ'⟩=>go P C T n ds O h σ' φ'|none=>n_
 |d::ds,pt,ks,Y,Z=>match Qv8 P C T n d pt ks Y Z with|some ⟨O,h,σ',φ'⟩=>go P C T n ds O h σ' φ'|none=>n_
section
variable {P:Program}{C:Xs}{T:EJ}{Q:Exit->St->Prop}{n:Nat}{Z:Nat->O_ QV}{Y:St}{a:Act}{w:World}
def QtH (P:Program)(C:Xs)(Q:Exit->St->Prop)(pt:Pt)(ks:L_ Fr)(Y:St)(Z:Prop)(c:Cfg):Prop:=c.Z->Z/\(AK P C Q c.pt c.ks c.Y->AK P C Q pt ks Y)
def Qcg {Z:Prop}{q:O_ Prop}{v:V}{ob:O_ Ob}(h:Qcf Z q):Z/\Rs.holds ⟨v,ob,q⟩:=by
 cases q with|none=>exact⟨h,trivial⟩|some p=>exact h
def QuK {pt pt':Pt}{ks O:L_ Fr}{Y:St}(h:ctl pt ks Y=X (pt',O))(k:AK P C Q pt' O Y):AK P C Q pt ks Y:=by
 unfold ctl at h;split at h
 ·cases h;exact AK.seq k
 ·cases h;exact AK.block k
 ·cases h;exact AK.region k
 ·cases h;exact AK.skip k
 ·cases h;exact AK.label k
 ·cases h;exact AK.exit k
 ·cases h;exact AK.ret k
 ·split at h
  ·rename_i hc;cases h;exact Yz.cond_true hc k
  ·rename_i hc;cases h;exact Yz.cond_false hc k
  cases h
 ·cases h;exact AK.nil k
 ·cases h;exact AK.popSeq k
 ·cases h;exact AK.popBlk k
 ·cases h;exact AK.exSeq k
 ·cases h;exact AK.exCut k
 ·rename_i _ i j ks;cases hb:Nat.beq i j with
  |true=>rw[hb]at h;cases h;exact AK.exBlk hb k
  |false=>rw[hb]at h;cases h;exact AK.exBlk' hb k
 ·cases h;exact AK.retPop k
 cases h
def ZI {ops:Array Oper}{o:Oper}{f:Nat->O_ V}{b:Bool}(h:UA ops o f=X b):
  (o.guard=n_/\b=t_)\/∃j t d,o.guard=X (j,t)/\((ops[j]?).bind (·.dst))=X d/\((∃u,f d=X (.b u)/\b=(u==t))\/(f d=X (.lit undef)/\b=f_)):=by
 unfold UA at h;split at h
 ·rename_i hg;cases h;exact .inl ⟨hg,rfl⟩
 rename_i j t hg;split at h
 ·rename_i oj hj;split at h
  ·rename_i d hd;have hjd:((ops[j]?).bind (·.dst))=X d:=by rw[hj];exact hd
   refine .inr ⟨j,t,d,hg,hjd,?_⟩;split at h
   ·rename_i O;cases h;exact .inl ⟨t_,O,by simp⟩
   ·rename_i O;cases h;exact .inl ⟨f_,O,by simp⟩
   ·rename_i v _ _ O;obtain⟨h1,h⟩:=XV h;cases h;exact .inr ⟨by rw[O,V.isUnd_eq h1],rfl⟩
   cases h
  cases h
 cases h
def AL.want {ops:Array Oper}{o:Oper}{l:L_ Oper}{Y σ':St}{Q:Exit->St->Prop}(h:UA ops o (look Y.fr)=X t_)(hs:Stp P C o Y σ')(k:AL P C ops l σ' Q):AL P C ops (o::l) Y Q:=by
 rcases ZI h with⟨hg,_⟩|⟨j,t,d,hg,hj,⟨u,hu,O⟩|⟨_,O⟩⟩
 ·exact AL.cons hg hs k
 ·have:u=t:=by simpa using O.symm
  exact AL.consGT hg hj hu this hs k
 cases O
def AL.pass {ops:Array Oper}{o:Oper}{l:L_ Oper}{Y:St}{Q:Exit->St->Prop}{d:Nat}(h:UA ops o (look Y.fr)=X f_)(hd:o.dst=X d)(hn:B_ d C)(k:AL P C ops l (Y.put d (.lit undef)) Q):AL P C ops (o::l) Y Q:=by
 rcases ZI h with⟨_,O⟩|⟨j,t,e,hg,hj,⟨u,hu,O⟩|⟨hu,_⟩⟩
 ·cases O
 ·have:u=!t:=by cases u<;>cases t<;>first|rfl|cases O
  exact AL.consNT hg hj hu this hd hn k
 exact AL.consU hg hj hu hd hn k
def AL.pass0 {ops:Array Oper}{o:Oper}{l:L_ Oper}{Y:St}{Q:Exit->St->Prop}(h:UA ops o (look Y.fr)=X f_)(hd:o.dst=n_)(k:AL P C ops l Y Q):AL P C ops (o::l) Y Q:=by
 rcases ZI h with⟨_,O⟩|⟨j,t,e,hg,hj,⟨u,hu,O⟩|⟨hu,_⟩⟩
 ·cases O
 ·have:u=!t:=by cases u<;>cases t<;>first|rfl|cases O
  exact AL.consNT0 hg hj hu this hd k
 exact AL.consU0 hg hj hu hd k
def RR.putDenil {d:Nat}{v:V}{ms:L_ (O_ Nat)}(h:RR C Z (Y.put d v) a w):RR C Z (Y.put d (v.denil ms)) a w:=by
 obtain⟨x,hx,hrep⟩:=h.frame d v (QB _ _ _);refine(h.say hx (hrep.denil (ms:=ms))).le λt u O=>?_;by_cases e:d=t
 ·subst e;have O:look ((d,v.denil ms)::Y.fr) d=X u:=O;rw[QB]at O;show look ((d,v.denil ms)::_) d=X u;rw[QB];exact O
 have O:look ((d,v.denil ms)::Y.fr) t=X u:=O;rw[Qz _ _ e]at O;show look ((d,v.denil ms)::(d,v)::Y.fr) t=X u;rw[Qz _ _ e,Qz _ _ e];exact O
def Stp.denil {o:Oper}{Y σ':St}{d:Nat}{v:V}{ms:L_ (O_ Nat)}(h:Stp P C o Y (σ'.put d v)):Stp P C o Y (σ'.put d (v.denil ms)):=
 λa w hR next Q hn=>h a w hR next Q λO w' ⟨Z,hr⟩=>hn O w' ⟨Z,hr.putDenil⟩
def QiK {h:WE}{sv:O_ (L_ (O_ Nat)×V)}{o:Oper}{Y σ':St}{Z φ':Prop}(ok:DI P T)(hN:JA P C n)(e:Yk P C T n h sv o Y Z=X (σ',φ'))(hφ:φ'):Z/\Stp P C o Y σ':=by
 have hn:=hN.n;unfold Yk at e;split at e
 ·rename_i d hd;replace e:=XV e;obtain⟨e1,e⟩:=e;rw[<-hn]at e1;split at e
  ·rename_i v q O;have key:∀q':Prop,Qcf Z q/\q'->Z/\Stp P C o Y (Y.put d v):=λq' h=>by
    obtain⟨a,b⟩:=Qcg h.1;exact⟨a,QiJ ok hd e1 hN.g (λ_ _ h=>h) (λ_ _ h=>h) O b (λh=>by cases h)⟩
   split at e
   ·cases e;exact key True ⟨hφ,trivial⟩
   cases e;obtain⟨a,b⟩:=hφ;subst b;obtain⟨a1,a2⟩:=key True ⟨a,trivial⟩;exact⟨a1,a2.denil⟩
  ·rename_i v ob q O;split at e
   ·rename_i hl;have key:∀q':Prop,Qcf Z q/\q'->Z/\Stp P C o Y ((Y.set d ob).put d v):=λq' h=>by
     obtain⟨a,b⟩:=Qcg h.1;exact⟨a,QiJ ok hd e1 hN.g (λ_ _ h=>h) (λ_ _ h=>h) O b (λ_=>hl)⟩
    split at e
    ·cases e;exact key True ⟨hφ,trivial⟩
    cases e;obtain⟨a,b⟩:=hφ;subst b;obtain⟨a1,a2⟩:=key True ⟨a,trivial⟩;exact⟨a1,a2.denil⟩
   cases e
  cases e
 rename_i hd;split at e
 ·rename_i Tx x y ho;split at e
  ·rename_i p hp;split at e
   ·rename_i v hv;unfold QuJ at e;split at e
    ·rename_i b i off v;split at e
     ·rename_i cs hb;split at e
      ·split at e
       ·rename_i k hk;replace e:=XV e;obtain⟨e2,e⟩:=e;cases e;simp only[QL]at e2;obtain⟨⟨⟨a1,a2⟩,a3⟩,a4⟩:=e2;exact⟨hφ,Stp.storeL ho hd hp hb hv (V.isV_or a1) (ok.sz hk) (Yr a2) a3 a4 rfl⟩
       cases e
      cases e
     cases e
    cases e
   cases e
  cases e
 cases e
def QtI {o:Oper}{Y σ':St}{Z φ':Prop}{rs':L_ (L_ V)}{m d Tx Ty:Nat}{x y:Operand}{p v:V}(ok:DI P T)(hN:JA P C n)(ho:o.op=.call { callee:=.builtin .append,args:=#[x,y],argTypes:=#[Tx,Ty] })(hd:o.dst=X d)
  (hx:Y.opd x=X p) (hy:Y.opd y=X v) (e:Qv6 T n Y Z rs' m d Tx Ty p v=X (σ',φ')) (hφ:φ'):Z/\Stp P C o Y σ':=by
 have hn:=hN.n;unfold Qv6 at e;split at e
 ·rename_i b k y';split at e
  ·rename_i z rs hb;split at e
   ·rename_i et z' by_ O;split at e
    ·rename_i zs hz;replace e:=XV e;obtain⟨e1,e⟩:=e;simp only[QL,AC]at e1;obtain⟨⟨⟨⟨⟨⟨a1,a2⟩,a3⟩,a4⟩,a5⟩,a6⟩,a7⟩:=e1;have a4:=Yr a4;subst a4;have a5:=Yr a5;have a6:z≠0:=λh=>by rw[h]at a6;cases a6
     rw[<-hn]at a2;obtain⟨⟨e2,z2,by2⟩,hU⟩:∃q,XZ P Ty=X q:=by
      cases hl:look T.es Ty with
      |none=>rw[hl]at a1;cases a1
      |some q=>exact⟨q,ok.es hl⟩
     split at e
     ·rename_i z'' us;replace e:=XV e;obtain⟨e3,e⟩:=e;have:=Yr e3;subst this;cases e;obtain⟨h,h1,h2,h3,h4⟩:=hφ;exact⟨h,Stp.appS ho hd a2 hx hb a3 h1 (ok.es O) hU (ok.zv hz) a5 a6 a7 h2 hy h3 h4⟩
     ·rename_i b' k';split at e
      ·rename_i z'' us hb';replace e:=XV e;obtain⟨e3,e⟩:=e;have:=Yr e3;subst this;cases e;obtain⟨h,h1,h2,h3,h4,h5⟩:=hφ;exact⟨h,Stp.appO ho hd a2 hx hb a3 h1 (ok.es O) hU (ok.zv hz) a5 a6 a7 h2 hy hb' h3 h4 h5⟩
      cases e
     ·cases e;obtain⟨h,h1,h2⟩:=hφ;exact⟨h,Stp.appN ho hd a2 hx hb a3 h1 (ok.es O) hU (ok.zv hz) a5 a6 a7 h2 hy⟩
     cases e
    cases e
   cases e
  cases e
 cases e
def Qr0 {o:Oper}{Y σ':St}{Z φ':Prop}{O:TypeId}{x y:Operand}{p v:V}{r:L_ V}{rs':L_ (L_ V)}(ok:DI P T)(ho:o.op=.store O x y)(hd:o.dst=n_)(hx:Y.opd x=X p)(hy:Y.opd y=X v)
  (e:storeA T O Y Z r rs' p v=X (σ',φ')) (h:φ'):Z/\Stp P C o Y σ':=by
 unfold storeA at e;split at e
 ·rename_i b i off v;split at e
  ·rename_i z rs hb;split at e
   ·rename_i k hk;replace e:=XV e;obtain⟨e2,e⟩:=e;cases e;simp only[QL]at e2;obtain⟨⟨⟨⟨a1,a2⟩,a3⟩,a4⟩,a5⟩:=e2;exact⟨h.1,Stp.storeA ho hd hx hb h.2.1 hy (V.isV_or a1) (ok.sz hk) (Yr a2) a3 a4 a5 h.2.2⟩
   cases e
  cases e
 cases e
def R.say {Y:St}{t:Nat}{v:V}(h:∃u,look Y.fr t=X u/\u=v){a:Act}{w:World}(hR:R C Y a w):R C (Y.put t v) a w:=by
 obtain⟨u,hu,rfl⟩:=h;obtain⟨Z,hr⟩:=hR;obtain⟨x,hx,O⟩:=hr.frame t _ hu;exact⟨Z,hr.say hx O⟩
def RR.sayOb (h:RR C Z Y a w){b:Nat}{ob ob':Ob}(hb:look Y.hp b=X ob)(hs:∀B,Z b=X B->Jg Z (Xc C Z w) w B ob->Jg Z (Xc C Z w) w B ob')(he:ob=ob'\/¬ob.Nil):RR C Z (Y.set b ob') a w:=by
 rcases he with rfl|hne
 ·refine⟨h.os,h.tape,h.output,h.size,h.kept,h.inj,λo B hB=>?_,h.lt,h.new,h.stay.set hb,h.tmps,h.defers,h.frame,λo ob'' O=>?_⟩
  ·by_cases e:o=b
   ·subst e;exact⟨_,Y.look_set_same _ _⟩
   rw[Y.look_set_other _ (Ne.symm e)];exact h.dom o B hB
  by_cases e:o=b
  ·subst e;rw[Y.look_set_same]at O;cases O;exact h.heap _ _ hb
  rw[Y.look_set_other _ (Ne.symm e)]at O;exact h.heap _ _ O
 exact h.say' hb hs hne
def R.sayO {Y:St}{b:Nat}{ob:Ob}(h:∃u,look Y.hp b=X u/\u=ob){a:Act}{w:World}(O:R C Y a w):R C (Y.set b ob) a w:=by
 obtain⟨u,hu,rfl⟩:=h;obtain⟨Z,hr⟩:=O;exact⟨Z,hr.sayOb hu (λ_ _ h=>h) (.inl rfl)⟩
def R.denil {Y:St}{t:Nat}{v:V}{ms:L_ (O_ Nat)}(h:look Y.fr t=X v){a:Act}{w:World}(hR:R C Y a w):R C (Y.put t (v.denil ms)) a w:=by
 obtain⟨Z,hr⟩:=hR;obtain⟨x,hx,O⟩:=hr.frame t _ h;exact⟨Z,hr.say hx O.denil⟩
def R.denilO {Y:St}{b:Nat}{cs:L_ V}{ms:L_ (O_ Nat)}(h:look Y.hp b=X (.var cs)){a:Act}{w:World}(hR:R C Y a w):R C (Y.set b (.var (DZ ms cs))) a w:=by
 obtain⟨Z,hr⟩:=hR;refine⟨Z,hr.sayOb h (λB hB O=>?_) (.inr λe=>e.elim)⟩;obtain⟨xs,E,h1,h2,h0,h3⟩:=O;refine⟨xs,E,h1,by rw[QgX];exact h2,h0,λj x v hx hv=>?_⟩;obtain⟨m,v',hv',rfl⟩:=Qca _ _ j v hv;exact(h3 j x v' hx hv').den1
section
variable {hp:H_}{g:Bool}{bad:L_ Nat}{m:Nat->Nat->Prop}{bk:Nat->O_ Nat}
def QiL (hm:∀a b,bk a=X b->m a b):∀(v:V) {u:V},trC bk v=X u->Vw hp g f_ bad m v u
 |.own a n,u,h=>by rw[trC]at h;split at h<;>first|(rename_i b O;cases h;exact .own _ _ _ (hm _ _ O))|cases h
 |.loc a i d,u,h=>by rw[trC]at h;split at h<;>first|(rename_i b O;cases h;exact .loc _ _ _ _ (hm _ _ O))|cases h
 |.map a,u,h=>by rw[trC]at h;split at h<;>first|(rename_i b O;cases h;exact .map _ _ (hm _ _ O))|cases h
 |.ifc t x,u,h=>by
  rw[trC]at h;split at h
  ·rename_i y hy;cases h;exact .ifc _ _ _ (QiL hm x hy)
  cases h
 |.b _,u,h | .i _ _,u,h | .s _,u,h | .sl _ _,u,h | .sln _ _ _,u,h | .e0,u,h | .ro _,u,h | .agg _,u,h | .tup _,u,h | .clo _ _ _,u,h | .lit _,u,h | .J,u,h=>by
  have h:=XV (show(bif V.datA _ then X _ else n_)=X u from h);obtain⟨h1,h2⟩:=h;cases h2;exact .dat _ h1 (λe=>by cases e)
def ZJ (hm:∀a b,bk a=X b->m a b):∀{vs us:L_ V},trL bk vs=X us->vs.length=us.length/\∀(j:Nat) c u,vs[j]? = X c->us[j]? = X u->Vw hp g f_ bad m c u:=by
 intro vs
 induction vs with
 |nil=>intro us h;cases h;simp
 |cons v vs ih=>
  intro us h;rw[trL]at h;split at h
  ·rename_i u hu;split at h
   ·rename_i us' hus;cases h;obtain⟨a,b⟩:=ih hus;refine⟨by simp[a],λj c w O hw=>?_⟩;cases j with|zero=>simp at O hw;subst O;subst hw;exact QiL hm _ hu|succ j=>simp at O hw;exact b j c w O hw
   cases h
  cases h
def Mn (hm:∀a b,bk a=X b->m a b){v u:V}(h:trV bk v=X u):Vw hp g f_ bad m v u:=by
 unfold trV at h;split at h
 ·rename_i cs;cases hd:(V.agg cs).datA with
  |true=>rw[hd]at h;cases h;exact .dat _ hd (λe=>by cases e)
  |false=>
   rw[hd]at h;dsimp only[cond_false]at h;split at h
   ·rename_i us O;cases h;obtain⟨a,b⟩:=ZJ hm O;exact .agg _ _ a b
   cases h
 ·rename_i cs;cases hd:(V.tup cs).datA with
  |true=>rw[hd]at h;cases h;exact .dat _ hd (λe=>by cases e)
  |false=>
   rw[hd]at h;dsimp only[cond_false]at h;split at h
   ·rename_i us O;cases h;obtain⟨a,b⟩:=ZJ hm O;exact .tup _ _ a b
   cases h
 ·split at h
  ·rename_i us O;split at h
   ·rename_i ds hds;cases h;obtain⟨a,b⟩:=ZJ hm O;obtain⟨a',b'⟩:=ZJ hm hds;exact .clo _ _ _ _ _ a a' b b'
   cases h
  cases h
 exact QiL hm _ h
def Qnd (hm:∀a b,bk a=X b->m a b):∀{vs us:L_ V},QrX bk vs=X us->vs.length=us.length/\∀(j:Nat) c u,vs[j]? = X c->us[j]? = X u->Vw hp g f_ bad m c u:=by
 intro vs
 induction vs with
 |nil=>intro us h;cases h;simp
 |cons v vs ih=>
  intro us h;rw[QrX]at h;split at h
  ·rename_i u hu;split at h
   ·rename_i us' hus;cases h;obtain⟨a,b⟩:=ih hus;refine⟨by simp[a],λj c w O hw=>?_⟩;cases j with|zero=>simp at O hw;subst O;subst hw;exact Mn hm hu|succ j=>simp at O hw;exact b j c w O hw
   cases h
  cases h
def QuL (hm:∀a b,bk a=X b->m a b){ob ob':Ob}(h:trO bk ob=X ob'):ObW hp g f_ bad m ob ob':=by
 unfold trO at h;split at h
 ·split at h
  ·rename_i us O;cases h;obtain⟨a,b⟩:=Qnd hm O;exact .var _ _ a b
  cases h
 ·split at h
  ·rename_i us O;cases h;obtain⟨a,b⟩:=Qnd hm O;exact .lp _ _ _ _ _ a b
  cases h
 ·cases h;exact .arr _ _ (λe=>by cases e)
 ·cases h;exact .map _ (λe=>by cases e)
 ·cases h;exact .grp _ _ _ rfl
 ·cases h;exact .tbl _ _ _ rfl
 cases h
def IV (hm:∀a b,bk a=X b->m a b):∀{ms:L_ Mode} {vs us:L_ V},PQ bk ms vs=X us->Vws hp g f_ bad m vs us:=by
 intro ms
 induction ms with
 |nil=>intro vs us h;cases vs with
  |nil=>cases h;exact .nil
  |cons=>cases h
 |cons md ms ih=>
  intro vs us h;cases vs with
  |nil=>cases h
  |cons v vs=>
   rw[PQ]at h;split at h
   ·rename_i u O;split at h
    ·rename_i us' hus;cases h;refine .cons ?_ (ih hus);unfold Qyg at O;split at O
     ·cases O;exact .nil _
     ·exact Mn hm O
     ·rename_i n cs;split at O
      ·rename_i us2 hus2;split at O
       ·rename_i hj;cases O;obtain⟨a,b⟩:=ZJ hm hus2;refine .agg _ _ (by rw[<-a];simp) λj c w hc hw=>?_;by_cases e:j=n
        ·subst e;rw[hj]at hw;cases hw;exact .forget _
        exact b j c w (by rw[List.getElem?_set,if_neg (Ne.symm e)];exact hc) hw
       cases O
      cases O
     cases O
    cases h
   cases h
def Dj (hm:∀a b,bk a=X b->m a b){src:H_}:∀{M:L_ (Nat×Nat)} {l:H_},CS bk (look src) M=X l->OH hp g f_ bad m src M l:=by
 intro M
 induction M with
 |nil=>intro l h;cases h;exact .nil
 |cons p M ih=>
  intro l h;obtain⟨d,s⟩:=p;rw[CS]at h;split at h
  ·rename_i ob hob;split at h
   ·rename_i ob' O;split at h
    ·rename_i l' hl;cases h;exact .cons hob (QuL hm O) (ih hl)
    cases h
   cases h
  cases h
def Bk : ∀{M:L_ (Nat×Nat)} {a b:Nat},Dl M a=X b->(b,a)∈M:=by
 intro M
 induction M with
 |nil=>intro a b h;cases h
 |cons p M ih=>
  intro a b h;obtain⟨b',a'⟩:=p;rw[Dl]at h;cases O:Nat.beq a' a with
  |true=>rw[O]at h;cases h;rw[Yr O];exact Yd
  |false=>rw[O]at h;exact Yq _ (ih h)
end
def QtJ {o:Oper}{Y:St}{Z φ':Prop}{c:Call}{en:Ent}{f:Nat}{vs:L_ V}(ok:DI P T)(ho:o.op=.call c)(e:Qv5 P T Y Z c en=X (f,vs,φ'))(hφ:φ'):Z/\Jo P C o Y f vs:=by
 obtain⟨ce,ags,ts⟩:=c;unfold Qv5 at e;split at e
 ·split at e
  ·rename_i f' O;dsimp only at O;subst O;replace e:=XV e;obtain⟨e1,e⟩:=e;split at e
   ·rename_i vs' hv;cases e;exact⟨hφ,Jo.fn ho (ok.en e1) (Ua (λ_ _ h=>h) hv)⟩
   cases e
  cases e
 ·split at e
  ·rename_i x O;dsimp only at O;subst O;split at e
   ·rename_i f' fs cs hx;replace e:=XV e;obtain⟨e1,e⟩:=e;split at e
    ·rename_i vs' hv;cases e;exact⟨hφ,Jo.clo ho hx (ok.en e1) (Ua (λ_ _ h=>h) hv)⟩
    cases e
   cases e
  cases e
 ·split at e
  ·rename_i x name O;dsimp only at O;subst O;split at e
   ·rename_i t u hx;replace e:=XV e;obtain⟨e1,e⟩:=e;split at e
    ·rename_i vs' hv;cases e;exact⟨hφ.1,Jo.meth (r:=u) ho hx hφ.2 (ok.en e1) (Ua (λ_ _ h=>h) hv)⟩
    cases e
   cases e
  cases e
 split at e
 ·rename_i x name O;dsimp only at O;subst O;split at e
  ·rename_i t b off hx;split at e
   ·rename_i cs hb;split at e
    ·rename_i r hr0;replace e:=XV e;obtain⟨e1,e⟩:=e;split at e
     ·rename_i vs' hv;cases e;exact⟨hφ.1,Jo.methV ho hx hφ.2.1 hφ.2.2.1 hφ.2.2.2 hb hr0 (ok.en e1) (Ua (λ_ _ h=>h) hv)⟩
     cases e
    cases e
   cases e
  cases e
 cases e
def QuM {o:Oper}{Y σ':St}{Z φ':Prop}{d f:Nat}{vs:L_ V}{M N:L_ (Nat×Nat)}{dead:L_ Nat}{ms:L_ Mode}{outs:H_}{r:V}(hE:Jo P C o Y f vs)(hd:o.dst=X d)(hn:B_ d C)(hpg:C.pg P)
  (e:cmV P Y Z d f vs M N dead ms outs r=X (σ',φ')) (hφ:φ'):Z/\Stp P C o Y σ':=by
 unfold cmV at e;replace e:=XV e;obtain⟨e1,e⟩:=e;simp only[QL]at e1;obtain⟨⟨h1,h2⟩,h3⟩:=e1;have h2:=WD.1 h2;have h3:=WD.1 h3;have O:Ho M=t_/\Ho N=t_:=by
  simp only[DA,QL]at h1;exact⟨h1.1.1.1,h1.1.1.2⟩
 have mM:∀a b,Dl M a=X b->look M b=X a:=λa b h=>JX O.1 (Bk h) h2;have mN:∀a b,Dl N a=X b->look N b=X a:=λa b h=>JX O.2 (Bk h) h3;split at e
 ·rename_i us hus;split at e
  ·rename_i hsC hC;split at e
   ·rename_i hsN hN;split at e
    ·rename_i r' hr;cases e;exact⟨hφ.1,Stp.callM (g:=f_) hE hd hn hpg h1 h2 (IV mM hus) (Dj mM hC) hφ.2 (Dj mN hN) (Mn mN hr)⟩
    cases e
   cases e
  cases e
 cases e
def Qv9 {l:S_}:∀{O:L_ Nat} {r:S_},Xz l O=X r->Nt l r:=by
 intro O
 induction O with
 |nil=>intro r h;cases h;trivial
 |cons t O ih=>
  intro r h;rw[Xz]at h;split at h
  ·rename_i v hv;split at h
   ·rename_i r' hr;cases h;exact⟨hv,ih hr⟩
   cases h
  cases h
def Qwa {l:H_}:∀{O:L_ Nat} {r:H_},Xz l O=X r->Hn l r:=by
 intro O
 induction O with
 |nil=>intro r h;cases h;trivial
 |cons t O ih=>
  intro r h;rw[Xz]at h;split at h
  ·rename_i v hv;split at h
   ·rename_i r' hr;cases h;exact⟨hv,ih hr⟩
   cases h
  cases h
def RR.thawN {β:Nat}(hβ:β<=C.w0.heap.size)(hr:RR C Z Y a w){b n z:Nat}{rs us:L_ (L_ V)}(hp:Nat.ble 635 b=f_)(hb:look Y.hp b=X (.arr z rs)){x:Value}(hrep:QR Z (Xc C Z w) w x (.own b n))(hle:n<=rs.length)(hu:rs.take n=us):
  XJ (Xc C (Ga Z b) w) w x (.sln β z us):=by
 subst hu;rcases hrep.own_inv with⟨rfl,rfl⟩|⟨B,hB,O,rfl⟩
 ·simp only[List.take_zero];exact .sln0 _ _ _ _
 obtain⟨rfl,hrl,hok,cs,E,h1,h2,h3⟩:=hr.block hB hb;have hnew:C.w0.heap.size<=B.b:=by
  have hb':b<635:=by
   rcases DX b 635 with h|h
   ·exact h
   rw[Zm h]at hp;cases hp
  exact hr.new b B _ hB B.self hb'
 have hIb:Xc C (Ga Z b) w B.b:=by
  refine⟨(hr.lt b B _ hB B.self).1,λhlt=>by omega,λo B' hB' e=>?_⟩;obtain⟨h4,h5⟩:=Kk hB';exact h4 (hr.inj o b B' B _ h5 hB e B.self)
 have hle2:n*B.z<=B.cap*B.z:=Ys _ O;refine .sln β B.b B.off n B.cap B.z _ cs E (Yx hβ hnew) hIb (by simp;omega) O (λr hr'=>hok r (DV hr')) h1 (by omega) (λi r hi j v hj=>?_);have hi':rs[i]? = X r:=by
  rw[YQ]at hi;by_cases hin:i<n
  ·rwa[if_pos hin]at hi
  rw[if_neg hin]at hi;simp at hi
 obtain⟨y,hy,hd⟩:=h3 i r hi' j v hj;have:cs.getD (B.off+(i*B.z+j)) undef=y:=by simp[Qb6,hy]
 rw[this];exact hd.mono λk hk=>⟨hk.of_del,rfl⟩
def RR.thaw (hr:RR C Z Y a w){b n z:Nat}{rs us:L_ (L_ V)}(hp:Nat.ble 635 b=f_)(hb:look Y.hp b=X (.arr z rs)){x:Value}(h:QR Z (Xc C Z w) w x (.own b n))(O:n<=rs.length)(hu:rs.take n=us):
  QR (Ga Z b) (Xc C (Ga Z b) w) w x (.sl z us):=.dat (hr.thawN (Nat.zero_le _) hp hb h O hu).lo1
def Frz (C:Xs)(s:V)(z:Nat)(us:L_ (L_ V)):Prop:=s=.sl z us\/∃β,s=.sln β z us/\β<=C.w0.heap.size
def RR.thawU {s:V}{z:Nat}{us:L_ (L_ V)}(hs:Frz C s z us)(hr:RR C Z Y a w){b n:Nat}{rs:L_ (L_ V)}(hp:Nat.ble 635 b=f_)(hb:look Y.hp b=X (.arr z rs)){x:Value}(h:QR Z (Xc C Z w) w x (.own b n))(O:n<=rs.length)(hu:rs.take n=us):
  QR (Ga Z b) (Xc C (Ga Z b) w) w x s:=by
 rcases hs with rfl|⟨β,rfl,hβ⟩
 ·exact hr.thaw hp hb h O hu
 exact .dat (hr.thawN hβ hp hb h O hu)
section
variable {b z:Nat}{rs us:L_ (L_ V)}{σ0:St}{s:V}
def RR.frzC (hs:Frz C s z us)(hr:RR C Z Y a w)(hp:Nat.ble 635 b=f_)(hb:look Y.hp b=X (.arr z rs)){x:Value}{v:V}(h:QR Z (Xc C Z w) w x v)(hq:QrY b rs us v)(O:v.freeC b=t_\/∃k,v=.own b k):
  QR (Ga Z b) (Xc C (Ga Z b) w) w x (v.frzC b s):=by
 rcases O with O|⟨k,rfl⟩
 ·have:v.frzC b s=v:=by
   unfold V.frzC;split
   ·rename_i o k;have:Nat.beq o b=f_:=by simpa[V.freeC,V.freeN] using O
    rw[this];rfl
   rfl
  rw[this];exact QR.freeC (λo B ho hB=>by rw[Wj ho];exact hB) (λk hk=>⟨hk.of_del,rfl⟩) h O
 have e:Nat.beq b b=t_:=Nat.beq_refl b;simp only[QrY,e,Xi]at hq;simp only[V.frzC,e,Xi];exact RR.thawU hs hr hp hb h hq.1 hq.2
def Qqq {O:L_ V}(h:Qg5 b rs us O):∀(j:Nat) v,O[j]? = X v->QrY b rs us v:=by
 induction O with
 |nil=>intro j v hj;simp at hj|cons c O ih=>
  intro j v hj;have h2:Qg5 b rs us O:=by
   unfold Qg5 at h;split at h
   ·rename_i e;cases e
   ·rename_i e;cases e;exact h.2
   rename_i e;cases e;exact h
  cases j with
  |zero=>
   simp at hj;subst hj;cases c with|own o k=>exact h.1|_=>trivial
  |succ j=>exact ih h2 j v (by simpa using hj)
end
section
variable {b z:Nat}{rs us:L_ (L_ V)}{σ0:St}{s:V}
def Qr1 {v:V}(h:(v.freeC b||v.isOwn b)=t_):v.freeC b=t_\/∃k,v=.own b k:=by
 rw[WO]at h;rcases h with h|h
 ·exact .inl h
 unfold V.isOwn at h;split at h
 ·rename_i o k;rw[Yr h];exact .inr ⟨k,rfl⟩
 cases h
def RR.frzV (hz:Frz C s z us)(hr:RR C Z σ0 a w)(hp:Nat.ble 635 b=f_)(hb:look σ0.hp b=X (.arr z rs)){x:Value}{v:V}(h:QR Z (Xc C Z w) w x v)(hq:Qv7 b rs us v)(hf:v.frzB b=t_):
  QR (Ga Z b) (Xc C (Ga Z b) w) w x (v.frz b s):=by
 unfold V.frz;unfold Qv7 at hq;unfold V.frzB at hf;split at hq
 ·rename_i cs;obtain⟨xs,rfl,hs,hc⟩:=h.agg_inv;refine .agg xs _ (by simpa using hs) λj y u hy hu=>?_;rw[Ya]at hu;obtain⟨c,O,rfl⟩:=Yf.1 hu;dsimp only at hf;rw[XM]at hf;exact RR.frzC hz hr hp hb (hc j y c hy O) (Qqq hq j c O) (Qr1 (hf c (XG O)))
 rename_i hne;have hf':(v.freeC b||v.isOwn b)=t_:=by
  split at hf
  ·exact absurd rfl (hne _)
  exact hf
 exact RR.frzC hz hr hp hb h hq (Qr1 hf')
def QtK (hs:Frz C s z us)(hr:RR C Z σ0 a w)(hp:Nat.ble 635 b=f_)(hb:look σ0.hp b=X (.arr z rs)):∀{ts:L_ Nat} {Y σ':St} {ψ ψ':Prop},QlU b s rs us σ0 ts Y ψ=X (σ',ψ')->ψ'->ψ/\(RR C (Ga Z b) Y a w->RR C (Ga Z b) σ' a w):=by
 intro ts
 induction ts with
 |nil=>intro Y σ' ψ ψ' h h';cases h;exact⟨h',id⟩
 |cons t ts ih=>
  intro Y σ' ψ ψ' h h';rw[QlU]at h;split at h
  ·rename_i v hv;replace h:=XV h;obtain⟨h0,h⟩:=h;obtain⟨⟨h1,h2⟩,h3⟩:=ih h h';refine⟨h1,λk=>h3 ?_⟩;obtain⟨x,hx,O⟩:=hr.frame t v hv;exact k.say hx (RR.frzV hs hr hp hb O h2 h0)
  cases h
def QtL (hs:Frz C s z us)(hr:RR C Z σ0 a w)(hp:Nat.ble 635 b=f_)(hb:look σ0.hp b=X (.arr z rs)):∀{os:L_ Nat} {Y σ':St} {ψ ψ':Prop},QrZ b s rs us σ0 os Y ψ=X (σ',ψ')->ψ'->ψ/\(RR C (Ga Z b) Y a w->(∀p cs ob,look σ0.hp p=X (.var cs)->look Y.hp p=X ob->¬ob.Nil)->RR C (Ga Z b) σ' a w):=by
 intro os
 induction os with
 |nil=>intro Y σ' ψ ψ' h h';cases h;exact⟨h',λk _=>k⟩
 |cons p ps ih=>
  intro Y σ' ψ ψ' h h';rw[QrZ]at h;split at h
  ·rename_i cs hcs;replace h:=XV h;obtain⟨h0,h⟩:=h;simp only[QL,AC]at h0;obtain⟨⟨g1,g2⟩,g3⟩:=h0;obtain⟨⟨h1,h2⟩,h3⟩:=ih h h';refine⟨h1,λk hv=>h3 ?_ ?_⟩
   ·have hne:p≠b:=λe=>by subst e;rw[Nat.beq_refl]at g1;cases g1
    obtain⟨ob,hob⟩:=Option.isSome_iff_exists.1 g3;refine k.sayOb hob (λB hB _=>?_) (.inr (hv p cs ob hcs hob));obtain⟨_,hB'⟩:=Kk hB;rcases hr.heap p _ hcs with⟨B',O,hrep⟩|⟨hn,_⟩
    ·rw[hB']at O;cases O;obtain⟨xs,E,e1,e2,e0,e3⟩:=hrep;refine⟨xs,E,e1,by simpa using e2,e0,λj x v hx hv'=>?_⟩;rw[Ya]at hv';obtain⟨c,hcj,rfl⟩:=Yf.1 hv';rw[XM]at g2;exact RR.frzC hs hr hp hb (e3 j x c hx hcj) (Qqq h2 j c hcj) (Qr1 (g2 c (XG hcj)))
    rw[hn]at hB';cases hB'
   intro p' cs' ob' e1 e2 e3;by_cases e:p=p'
   ·subst e;rw[St.look_set_same]at e2;cases e2;exact e3.elim
   rw[St.look_set_other _ _ e]at e2;exact hv p' cs' ob' e1 e2 e3
  cases h
end
def R.frz {b z:Nat}{rs us:L_ (L_ V)}{s:V}(hs:Frz C s z us){Y σ1 σ2:St}{O os:L_ Nat}{φ1 φ2:Prop}(hp:Nat.ble 635 b=f_)(hb:look Y.hp b=X (.arr z rs))(h1:QlU b s rs us Y O (Y.kill b) True=X (σ1,φ1))(h2:QrZ b s rs us Y os σ1 φ1=X (σ2,φ2))(hφ:φ2)
  {a:Act} {w:World} (hR:R C Y a w):R C σ2 a w:=by
 obtain⟨Z,hr⟩:=hR;obtain⟨e1,e2⟩:=QtL hs hr hp hb h2 hφ;obtain⟨_,e3⟩:=QtK hs hr hp hb h1 e1;refine⟨_,e2 (e3 (hr.kill b)) λp cs ob g1 g2 g3=>?_⟩;have key:∀{O:L_ Nat} {σ' σ'':St} {ψ ψ':Prop},QlU b s rs us Y O σ' ψ=X (σ'',ψ')->σ''.hp=σ'.hp:=by
  intro O
  induction O with
  |nil=>intro σ' σ'' ψ ψ' h;cases h;rfl
  |cons t O ih=>
   intro σ' σ'' ψ ψ' h;rw[QlU]at h;split at h
   ·replace h:=XV h;obtain⟨_,h⟩:=h;rw[ih h];rfl
   cases h
 rw[key h1]at g2;obtain⟨_,ob',h5,h6⟩:=Ju _ _ _ g2;rw[g1]at h5;cases h5;subst h6;exact g3.elim
def R.adoptO {Y:St}{p i b z:Nat}{cs:L_ V}(O:Nat.beq p b=f_)(hp:look Y.hp p=X (.var cs))(hi:cs[i]? = X (.lit (.slice n_ 0 0)))(hlt:b<639)(hb:look Y.hp b=n_){a:Act}{w:World}(hR:R C Y a w):
  R C ((Y.set b (.arr z [])).set p (.var (cs.set i (.own b 0)))) a w:=by
 obtain⟨Z,hr⟩:=hR;have hne:b≠p:=λe=>by subst e;rw[Nat.beq_refl]at O;cases O
 have h1:=hr.setNil (z:=z) hlt hb;have hp':look (Y.set b (.arr z [])).hp p=X (.var cs):=by rw[St.look_set_other _ _ hne];exact hp
 refine⟨Z,h1.sayOb hp' (λB hB hrep=>?_) (.inr λe=>e.elim)⟩;obtain⟨xs,E,e1,e2,e0,e3⟩:=hrep;refine⟨xs,E,e1,by simpa using e2,e0,λj x v hx h=>?_⟩;rw[List.getElem?_set]at h;split at h
 ·rename_i hij;subst hij;split at h
  ·cases h;have:=e3 i x _ hx hi;rw[this.lit_inv];exact .own0 b
  cases h
 exact e3 j x v hx h
def QtM {d:Cv}{pt:Pt}{ks:L_ Fr}{Y:St}{Z:Prop}{c:Cfg}(ok:DI P T)(hN:JA P C n)(e:Qv8 P C T n d pt ks Y Z=X c):QtH P C Q pt ks Y Z c:=by
 have hn:=hN.n;unfold Qv8 at e;split at e
 ·split at e
  ·rename_i hw;split at e
   ·rename_i hs;cases e;exact λh=>let ⟨a,b⟩:=QiK ok hN hs h;⟨a,λk=>AL.want hw b k⟩
   cases e
  cases e
 ·split at e
  ·rename_i hw;split at e
   ·rename_i hs;cases e;exact λh=>let ⟨a,b⟩:=QiK ok hN hs h;⟨a,λk=>AL.want hw b k⟩
   cases e
  cases e
 ·split at e
  ·rename_i hw;split at e
   ·rename_i hd;split at e
    ·rename_i ho;split at e
     ·rename_i hp;split at e
      ·rename_i hv;split at e
       ·rename_i hs;cases e;exact λh=>let ⟨a,b⟩:=Qr0 ok ho hd hp hv hs h;⟨a,λk=>AL.want hw b k⟩
       cases e
      cases e
     cases e
    cases e
   cases e
  cases e
 ·split at e
  ·rename_i hw;split at e
   ·rename_i hd;split at e
    ·rename_i cl ho;obtain⟨ce,ags,ts⟩:=cl;split at e
     ·rename_i hce;dsimp only at hce e;subst hce;split at e
      ·rename_i x y hxy;split at e
       ·rename_i Tx Ty hT;split at e
        ·rename_i p hp;split at e
         ·rename_i v hv;split at e
          ·rename_i hs;have ea:ags=#[x,y]:=by rw[<-Qd2 (xs:=ags),hxy]
           have et:ts=#[Tx,Ty]:=by rw[<-Qd2 (xs:=ts),hT]
           subst ea;subst et;cases e;exact λh=>let ⟨a,b⟩:=QtI ok hN ho hd hp hv hs h;⟨a,λk=>AL.want hw b k⟩
          cases e
         cases e
        cases e
       cases e
      cases e
     cases e
    cases e
   cases e
  cases e
 ·split at e
  ·rename_i hw;cases e;exact λh=>⟨h.1,λk=>AL.want hw h.2 k⟩
  cases e
 ·split at e
  ·rename_i hw;split at e
   ·rename_i d hd;replace e:=XV e;obtain⟨e1,e⟩:=e;rw[<-hn]at e1;split at e
    ·rename_i cl ho;split at e
     ·rename_i f vs φ1 he;split at e
      ·rename_i hs;cases e;refine λh=>?_;have h0:φ1:=by
        have hs':=hs;unfold cmV at hs';replace hs':=(XV hs').2
        repeat (split at hs'<;>first|(cases hs';exact h.1)|skip)
        all_goals cases hs'
       obtain⟨a,b⟩:=QtJ (C:=C) ok ho he h0;obtain⟨_,b'⟩:=QuM b hd e1 hN.g hs h;exact⟨a,λk=>AL.want hw b' k⟩
      cases e
     cases e
    cases e
   cases e
  cases e
 ·split at e
  ·rename_i hc;split at e
   ·cases e;exact λh=>⟨h.1,λk=>Yz.condT hc h.2 k⟩
   cases e;exact λh=>⟨h.1,λk=>Yz.condF hc h.2 k⟩
  cases e
 ·split at e
  ·rename_i u hu;cases e;exact λh=>⟨h.1,AK.weaken λa w=>R.say ⟨u,hu,h.2⟩⟩
  cases e
 ·split at e
  ·rename_i u hu;cases e;exact λh=>⟨h.1,AK.weaken λa w=>R.sayO ⟨u,hu,h.2⟩⟩
  cases e
 ·split at e
  ·rename_i ht;split at e
   ·rename_i hb;cases hbl:Nat.ble 639 _ with
    |true=>rw[hbl]at e;cases e
    |false=>rw[hbl]at e;cases e;exact λh=>⟨h,AK.weaken λa w O=>O.adopt (Bj (by rw[hbl];rfl)) ht hb⟩
   cases e
  cases e
 ·split at e
  ·rename_i v hv;cases e;exact λh=>⟨h,AK.weaken λa w O=>O.denil hv⟩
  cases e
 ·split at e
  ·rename_i v hv;cases e;exact λh=>⟨h,AK.weaken λa w O=>O.denilO hv⟩
  cases e
 ·replace e:=XV e;obtain⟨e1,e⟩:=e;simp only[QL,AC,Option.isNone_iff_eq_none]at e1;cases e;exact λh=>⟨h,AK.weaken λa w O=>O.ren _ _ e1.1.1 e1.1.2 e1.2⟩
 ·cases e;exact λh=>⟨h,AK.weaken λa w O=>O.kill _⟩
 ·split at e
  ·rename_i z rs hb;replace e:=XV e;obtain⟨e1,e⟩:=e;rw[AC]at e1;split at e
   ·rename_i σ1 φ1 h1;split at e
    ·rename_i σ2 φ2 h2;cases e;exact λh=>⟨h.1,AK.weaken λa w O=>R.frz (.inl rfl) e1 hb h1 h2 h.2 O⟩
    cases e
   cases e
  cases e
 ·split at e
  ·rename_i cs hcs;split at e
   ·rename_i hi;split at e
    ·rename_i hb;cases hpb:Nat.beq _ _ with
     |true=>rw[hpb]at e;cases e
     |false=>
      rw[hpb]at e;cases hbl:Nat.ble 639 _ with
      |true=>rw[hbl]at e;cases e
      |false=>rw[hbl]at e;cases e;exact λh=>⟨h,AK.weaken λa w O=>R.adoptO hpb hcs hi (Bj (by rw[hbl];rfl)) hb O⟩
    cases e
   cases e
  cases e
 ·split at e
  ·rename_i hf;split at e
   ·rename_i hp;replace e:=XV e;obtain⟨e1,e⟩:=e;cases e;exact λh=>⟨h,AK.weaken λa w O=>O.to (Qv9 hf) (Qwa hp) e1⟩
   cases e
  cases e
 cases e
def Qs1 (ok:DI P T)(hN:JA P C n):∀(k:Nat) {pt:Pt} {ks:L_ Fr} {Y:St} {Z:Prop} {c:Cfg},plain P C T n k pt ks Y Z=X c->QtH P C Q pt ks Y Z c:=by
 have hn:=hN.n;intro k
 induction k with
 |zero=>intro pt ks Y Z c e;cases e;exact λO=>⟨O,id⟩
 |succ k ih=>
  intro pt ks Y Z c e;unfold plain at e;split at e
  ·rename_i h;cases h
  ·rename_i k' ops o l _ _ _ h;cases h;split at e
   ·rename_i hw;split at e
    ·rename_i hs;exact λO=>let ⟨a,b⟩:=ih e O;let ⟨a',b'⟩:=QiK ok hN hs a;⟨a',λk=>AL.want hw b' (b k)⟩
    cases e
   ·rename_i hw;split at e
    ·rename_i d hd;replace e:=XV e;obtain⟨e1,e⟩:=e;rw[<-hn]at e1;exact λO=>let ⟨a,b⟩:=ih e O;⟨a,λk=>AL.pass hw hd e1 (b k)⟩
    rename_i hd;exact λO=>let ⟨a,b⟩:=ih e O;⟨a,λk=>AL.pass0 hw hd (b k)⟩
   cases e
  rename_i h _;cases h;split at e
  ·rename_i hc;exact λO=>let ⟨a,b⟩:=ih e O;⟨a,λk=>QuK hc (b k)⟩
  cases e
def Qwb (ok:DI P T)(hN:JA P C n):∀(ds:L_ Cv) {pt:Pt} {ks:L_ Fr} {Y:St} {Z:Prop} {c:Cfg},go P C T n ds pt ks Y Z=X c->QtH P C Q pt ks Y Z c:=by
 have hn:=hN.n;intro ds
 induction ds with
 |nil=>intro pt ks Y Z c e;cases e;exact λO=>⟨O,id⟩
 |cons d ds ih=>
  intro pt ks Y Z c e;unfold go at e;split at e
  ·rename_i h;cases h
  ·rename_i h;cases h;split at e
   ·rename_i hp;exact λO=>let ⟨a,b⟩:=ih e O;let ⟨a',b'⟩:=Qs1 ok hN _ hp a;⟨a',λk=>b' (b k)⟩
   cases e
  rename_i h;cases h;split at e
  ·rename_i hp;exact λO=>let ⟨a,b⟩:=ih e O;let ⟨a',b'⟩:=QtM ok hN hp a;⟨a',λk=>b' (b k)⟩
  cases e
def AK.go (ok:DI P T)(hN:JA P C n)(ds:L_ Cv){pt O:Pt}{ks h:L_ Fr}{Y σ':St}{Z:Prop}(e:Vm.go P C T n ds pt ks Y True=X ⟨O,h,σ',Z⟩)(hφ:Z)(k:AK P C Q O h σ'):AK P C Q pt ks Y:=
 (Qwb ok hN ds e hφ).2 k
end
def KJ {α:Type}{l:L_ α}{f:α->L_ V}{j:Int}{x:α}(h:idx l j=X x):0<=j/\(l.map f)[j.toNat]? = X (f x):=⟨(Kg h).1,Jf (Kg h).2⟩
def JU {α:Type}{l:L_ α}{j:Int}{x:α}{n:Nat}(h:idx l j=X x)(O:l.length=n):0<=j/\j<(n:Int):=by subst O;exact⟨(Kg h).1,QzD h⟩
def CU {a b:Bool}(h:(a&&b)=t_):a=t_:=(QL _ _▸h).1
def Aa {a b:Bool}(h:(a&&b)=t_):b=t_:=(QL _ _▸h).2
def ZK {a b c:Bool}(h:(a&&b&&c)=t_):a=t_:=CU (CU h)
def ZL {a b c:Bool}(h:(a&&b&&c)=t_):b=t_:=Aa (CU h)
def Qch {a b c:Bool}(h:(a&&b&&c)=t_):c=t_:=Aa h
def Qr2 {a b c d:Bool}(h:(a&&b&&c&&d)=t_):a=t_:=CU (CU (CU h))
def Qr3 {a b c d:Bool}(h:(a&&b&&c&&d)=t_):b=t_:=Aa (CU (CU h))
def Qr4 {a b c d:Bool}(h:(a&&b&&c&&d)=t_):c=t_:=Aa (CU h)
def Qr5 {a b c d:Bool}(h:(a&&b&&c&&d)=t_):d=t_:=Aa h
def Kt.none_ {Y:St}{n m:Nat}(h:n=m):Kt Y n .none m:=h▸Kt.no
def Qyh {α:Type}{l:L_ α}{h d:Nat}(O:h<=l.length):V.own d h=V.own d (l.take h).length:=by rw[Kd,HZ O]
def Gd {α β:Type}{us:L_ α}{y:L_ β}{n:Nat}(h:decide (n+y.length<=4294967296)=t_)(e:us.length=y.length):decide (n+us.length<=4294967296)=t_:=by rw[e];exact h
def JB {α β:Type}{us:L_ α}{l y:L_ β}(e:us.length=y.length):l.length+us.length=(l++y).length:=by rw[e];simp
def JC {rs:L_ (L_ V)}{n:Nat}(h:rs.length=n):n<=rs.length/\rs.take n=rs:=by subst h;exact⟨YK _,Hm⟩
def Wk (a b:Int):Bool:=decide (a<b)
def Ab (a b:ByteArray):Bool:=decide (a.data.toList.map UInt8.toNat<b.data.toList.map UInt8.toNat)
section
variable {P:Program}{C:Xs}{T:EJ}{Q:Exit->St->Prop}{n:Nat}{ops:Array Oper}{base:St}
def JL.denil {o:Oper}{Y:St}{d:Nat}{v:V}{ob:O_ Ob}{ms:L_ (O_ Nat)}(h:JL P C ops o Y (Y.addF ⟨d,v,ob⟩)):JL P C ops o Y (Y.addF ⟨d,v.denil ms,ob⟩):=by
 intro a w hR K Q hK;refine h a w hR K Q λa' w' ⟨Z,O⟩=>hK a' w' ⟨Z,?_⟩;cases ob with|none=>exact RR.putDenil (Y:=Y) O|some ob=>exact RR.putDenil (Y:=Y.set d ob) O
def Nt.app {fr:S_}:∀{l m:S_},Nt fr l->Nt fr m->Nt fr (l++m):=by
 intro l
 induction l with|nil=>intro m _ h;exact h|cons p l ih=>intro m h O;exact⟨h.1,ih h.2 O⟩
def Hn.app {hp:H_}:∀{l m:H_},Hn hp l->Hn hp m->Hn hp (l++m):=by
 intro l
 induction l with|nil=>intro m _ h;exact h|cons p l ih=>intro m h O;exact⟨h.1,ih h.2 O⟩
def Wc.walk {β:Nat}{f:FuncId}{fn:Func}{c:Code}{args:L_ V}{hs:H_}{post:V->H_->Prop}(n:Nat)(hf:P.funcs[f]? = X fn)(hb:fn.body=X c)(hn:fn.ntmps=n)
  (O:(Nat.ble args.length n&&Nat.ble n 639)=t_) (h:∀C:Xs,JA P C n->β<=C.w0.heap.size->AK P C (QeY P fn.results.toList post) (.c c) [] ⟨OG 0 args,hs⟩):Wc β P f args hs post:=by
 rw[QL]at O;exact Wc.enter hf hb hn O.1 O.2 λC h1 _ h2=>h C h1 h2
def Wc.walkR {β:Nat}{f:FuncId}{fn:Func}{c:Code}{args:L_ V}{hs:H_}{post:V->H_->Prop}(n:Nat)(hf:P.funcs[f]? = X fn)(hb:fn.body=X c)(hn:fn.ntmps=n)
  (O:(Nat.ble args.length n&&Nat.ble n 639)=t_) (h:∀C:Xs,JA P C n->C.rnd=n_->β<=C.w0.heap.size->AK P C (QeY P fn.results.toList post) (.c c) [] ⟨OG 0 args,hs⟩):Wc β P f args hs post:=by
 rw[QL]at O;exact Wc.enter hf hb hn O.1 O.2 h
def QQ.walk {f:FuncId}{fn:Func}{c:Code}{args:L_ V}{hs:H_}{post:V->H_->Prop}(n:Nat)(hf:P.funcs[f]? = X fn)(hb:fn.body=X c)(hn:fn.ntmps=n)
  (O:(Nat.ble args.length n&&Nat.ble n 639)=t_) (h:∀C:Xs,JA P C n->AK P C (QeY P fn.results.toList post) (.c c) [] ⟨OG 0 args,hs⟩):QQ P f args hs post:=by
 rw[QL]at O;exact QQ.enter hf hb hn O.1 O.2 λC h1 _=>h C h1
def QQ.walkR {f:FuncId}{fn:Func}{c:Code}{args:L_ V}{hs:H_}{post:V->H_->Prop}(n:Nat)(hf:P.funcs[f]? = X fn)(hb:fn.body=X c)(hn:fn.ntmps=n)
  (O:(Nat.ble args.length n&&Nat.ble n 639)=t_) (h:∀C:Xs,JA P C n->C.rnd=n_->AK P C (QeY P fn.results.toList post) (.c c) [] ⟨OG 0 args,hs⟩):QQ P f args hs post:=by
 rw[QL]at O;exact QQ.enter hf hb hn O.1 O.2 h
def gives {r:V}{outs O:H_}(h:Hn O outs):Gives r outs r O:=⟨rfl,λ_ _ e=>h.look _ _ e⟩
end
def Qth {α:Type}{f:α->L_ V}{l:L_ α}{n:Nat}(h:n=l.length):n<=(l.map f).length/\(l.map f).take n=l.map f:=by
 subst h;exact⟨by simp,DW (by simp)⟩
section
variable {τ ρ π:Type}
def JP (body:τ->π->O_ (τ⊕ρ)):τ->L_ π->O_ (τ⊕ρ)
 |s,[]=>X (.inl s)|s,p::l=>(body s p).bind λo=>Sum.elim (λh=>JP body h l) (λr=>X (.inr r)) o
open Classical in
noncomputable def Ih (body:τ->π->O_ (τ⊕ρ))(s:τ):L_ π->O_ (τ⊕ρ)
 |[]=>X (.inl s)|[p]=>JP body s [p]|l=>if ∀h:L_ π,h.Perm l->JP body s h=JP body s l then JP body s l else n_
def Hp {body:τ->π->O_ (τ⊕ρ)}{s:τ}{l:L_ π}{o:τ⊕ρ}:Ih body s l=X o↔(∀O:L_ π,O.Perm l->JP body s O=JP body s l)/\JP body s l=X o:=by
 unfold Ih;split
 ·exact⟨λh=>⟨λO hl=>by rw[hl.eq_nil],h⟩,λh=>h.2⟩
 ·exact⟨λh=>⟨λO hl=>by rw[List.perm_singleton.1 hl],h⟩,λh=>h.2⟩
 split
 ·rename_i h;exact Iff.intro (λe=>⟨h,e⟩) (λe=>e.2)
 rename_i h;exact Iff.intro (λe=>(by cases e)) (λe=>absurd e.1 h)
def Zp {body:τ->π->O_ (τ⊕ρ)}:∀{l m:L_ π} {s:τ},JP body s (l++m)=(JP body s l).bind λo=>Sum.elim (λh=>JP body h m) (λr=>X (.inr r)) o:=by
 intro l
 induction l with
 |nil=>intro m s;rfl|cons p l O=>
  intro m s;simp only[List.cons_append,JP];cases body s p with
  |none=>rfl|some o=>
   cases o with|inl h=>exact O|inr r=>rfl
def QuN {body:τ->π->O_ (τ⊕ρ)}(h:∀s p q,JP body s [p,q]=JP body s [q,p]):∀{l m:L_ π},l.Perm m->∀s,JP body s l=JP body s m:=by
 intro l m hp
 induction hp with
 |nil=>intro s;rfl|cons p _ ih=>
  intro s;simp only[JP];cases body s p with
  |none=>rfl|some o=>cases o with|inl s'=>exact ih s'|inr r=>rfl
 |swap p q l=>
  intro s;have e:∀a b:π,JP body s (a::b::l)=(JP body s [a,b]).bind λo=>Sum.elim (λs'=>JP body s' l) (λr=>X (.inr r)) o:=λa b=>by
   rw[<-Zp];rfl
  rw[e,e,h]
 |trans _ _ O ih2=>intro s;rw[O,ih2]
end
def YC {π:Type}(L:L_ (Nat×π))(h:Array Nat):L_ (Nat×π):=L.filter λq=>!h.contains q.1
def QbD {π:Type}{L:L_ (Nat×π)}(hn:(L.map (·.1)).Nodup){O:Array Nat}{q:Nat×π}(hq:q∈YC L O):(YC L O).Perm (q::YC L (O.push q.1)):=by
 have key:∀(l:L_ (Nat×π)),(l.map (·.1)).Nodup->∀p:Nat×π->Bool,q∈l->p q=t_->(l.filter p).Perm (q::l.filter λe=>p e&&!(e.1==q.1)):=by
  intro l
  induction l with
  |nil=>intro _ p h;simp at h|cons y l ih=>
   intro hn p hx hp;rw[GC,Uv]at hn;rcases Yw.1 hx with rfl|hx
   ·have h1:l.filter (λe=>p e&&!(e.1==q.1))=l.filter p:=by
     apply List.filter_congr;intro e he;have:e.1≠q.1:=λh=>hn.1 (by rw[<-h];exact List.mem_map_of_mem (f:=λq:Nat×π=>q.1) he);simp[this]
    simp[Bz,hp,h1]
   have hne:y.1≠q.1:=λh=>hn.1 (by rw[h];exact List.mem_map_of_mem (f:=λq:Nat×π=>q.1) hx);have h2:=ih hn.2 p hx hp;by_cases hy:p y=t_
   ·have e1:(y::l).filter p=y::l.filter p:=by simp[Bz,hy]
    have e2:((y::l).filter λe=>p e&&!(e.1==q.1))=y::l.filter λe=>p e&&!(e.1==q.1):=by simp[Bz,hy,hne]
    rw[e1,e2];exact(List.Perm.cons y h2).trans (List.Perm.swap _ _ _)
   have e1:(y::l).filter p=l.filter p:=by simp[Bz,hy]
   have e2:((y::l).filter λe=>p e&&!(e.1==q.1))=l.filter λe=>p e&&!(e.1==q.1):=by simp[Bz,hy]
   rw[e1,e2];exact h2
 have e2:YC L (O.push q.1)=L.filter λe=>(!O.contains e.1)&&!(e.1==q.1):=by
  unfold YC;apply List.filter_congr;intro e _;rw[QgM];simp[Array.mem_push]
 rw[e2];unfold YC at hq ⊢;rw[AD]at hq;exact key L hn _ hq.1 hq.2
def QtN {α:Type}:∀{l m:L_ α},l.Nodup->(∀x∈l,x∈m)->m.length<=l.length->l.Perm m:=by
 classical
 intro l
 induction l with
 |nil=>intro m _ _ h;have:m=[]:=Np.1 (Nat.le_zero.1 h);subst this;exact .nil|cons x l ih=>
  intro m O hs hl;rw[Uv]at O;have hx:=hs x Yd;have hp:=List.perm_cons_erase hx;refine(List.Perm.cons x (ih O.2 (λy hy=>?_) ?_)).trans hp.symm
  ·have hne:y≠x:=λe=>O.1 (e▸hy);exact(List.mem_erase_of_ne hne).2 (hs y (Yq _ hy))
  have:=hp.length_eq;simp at this hl;omega
section
variable {P:Program}{C:Xs}{Q:Exit->St->Prop}{Y σ':St}{ks:L_ Fr}{o:Oper}
def AK.weakenE {ι:Type _}{f:ι->St}{pt:Pt}(h:∀a w,R C Y a w->∃i,R C (f i) a w)(k:∀i,AK P C Q pt ks (f i)):AK P C Q pt ks Y:=by
 cases pt with|c c=>exact λa w O=>let ⟨i,hi⟩:=h a w O;k i a w hi|o ops l=>exact λa w O=>let ⟨i,hi⟩:=h a w O;k i a w hi|x e=>exact λa w O=>let ⟨i,hi⟩:=h a w O;k i a w hi
def CV {κ α:Type}(e:κ->V)(f:α->V)(L:L_ (Nat×(κ×α))):L_ (Nat×(V×V)):=L.map λq=>(q.1,(e q.2.1,f q.2.2))
def AK.openMap {κ α:Type}[DecidableEq κ]{K:TypeId}{e:κ->V}{val:κ->Value}{f:α->V}{lt:L_ (κ×α)}{b:Nat}{pt:Pt}(hk:Dh P K e val)(hb:look Y.hp b=X (.map (QJ e f lt)))
  (h:∀bm O (L:L_ (Nat×(κ×α))),(L.map (·.1)).Nodup->(L.map Prod.snd).Perm lt->AK P C Q pt ks (Y.set b (.mapX bm O (CV e f L) (QJ e f lt)))):AK P C Q pt ks Y:=by
 have key:∀a w,R C Y a w->∃i:{ i:Nat×Nat×L_ (Nat×(κ×α)) // (i.2.2.map (·.1)).Nodup/\(i.2.2.map Prod.snd).Perm lt },R C (Y.set b (.mapX i.1.1 i.1.2.1 (CV e f i.1.2.2) (QJ e f lt))) a w:=by
  intro a w ⟨Z,hr⟩;rcases hr.heap b _ hb with⟨B,hB,hrep⟩|⟨_,h2⟩
  ·obtain⟨es,O,h1,h2,h3,h4,h5,h6⟩:=hrep;have hL:∀l:L_ MapEntry,(∀x∈l,x∈es.toList)->∃L:L_ (MapEntry×(κ×α)),L.map Prod.fst=l/\∀q∈L,q.2∈lt/\XJ (Xc C Z w) w q.1.key (e q.2.1)/\XJ (Xc C Z w) w q.1.val (f q.2.2):=by
    intro l
    induction l with
    |nil=>intro _;exact⟨[],rfl,λq hq=>by simp at hq⟩|cons x l ih=>
     intro hx;obtain⟨L,e1,e2⟩:=ih λy hy=>hx y (Yq _ hy);obtain⟨p,hp,a1,a2⟩:=h5 x (hx x Yd);obtain⟨q,hq,rfl⟩:=Ye.1 hp;exact⟨(x,q)::L,by rw[GC,e1],λy hy=>by
      rcases Yw.1 hy with rfl|hy
      ·exact⟨hq,a1,a2⟩
      exact e2 y hy⟩
   obtain⟨L,e1,e2⟩:=hL es.toList λ_ h=>h;have hn:=(SE hk.einj).1 h3;have hborn:(L.map (·.1.born)).Nodup:=by
    have:L.map (·.1.born)=es.toList.map (·.born):=by rw[<-e1,Zi];rfl
    rw[this];exact h2.2.1
   have hkeys:(L.map λq=>q.2.1).Nodup:=by
    have h7:(L.map λq=>q.1.key).Nodup:=by
     have:(L.map λq=>q.1.key)=es.toList.map (·.key):=by rw[<-e1,Zi];rfl
     rw[this];exact h2.2.2
    have h8:(L.map λq=>q.1.key)=(L.map λq=>q.2.1).map val:=by
     rw[Zi];apply List.map_congr_left;intro q hq;exact hk.inv _ _ _ _ (e2 q hq).2.1
    rw[h8]at h7;exact(Zk.1 h7).imp λhab e'=>hab (by rw[e'])
   have hperm:(L.map Prod.snd).Perm lt:=by
    have hnd:(L.map Prod.snd).Nodup:=by
     have:(L.map λq=>q.2.1)=(L.map Prod.snd).map Prod.fst:=by rw[Zi];rfl
     rw[this]at hkeys;exact(Zk.1 hkeys).imp λhab e'=>hab (by rw[e'])
    have hsub:∀q∈L.map Prod.snd,q∈lt:=λq hq=>by
     obtain⟨y,hy,rfl⟩:=Ye.1 hq;exact(e2 y hy).1
    have hlen:lt.length<=(L.map Prod.snd).length:=by
     have:(L.map Prod.fst).length=es.toList.length:=by rw[e1]
     simp[QJ]at h4 this ⊢;omega
    have hltnd:lt.Nodup:=(Zk.1 hn).imp λhab e'=>hab (by rw[e']);exact QtN hnd hsub hlen
   have hes:es=(L.map Prod.fst).toArray:=by rw[e1]
   have hfst:(L.map λq=>(q.1,(e q.2.1,f q.2.2))).map Prod.fst=L.map Prod.fst:=by simp
   refine⟨⟨(B.b,O,L.map λq=>(q.1.born,q.2)),by show((L.map _).map _).Nodup;rw[Zi];exact hborn,by show((L.map _).map _).Perm _;rw[Zi];exact hperm⟩,Z,?_⟩;refine hr.say' hb (λB' hB' _=>?_) (λe'=>e'.elim);rw[hB]at hB';cases hB';refine⟨rfl,L.map λq=>(q.1,(e q.2.1,f q.2.2)),by simp[CV],by rw[h1,hfst,hes],by rw[hfst,<-hes];exact h2,h3,?_,λq hq=>?_⟩
   ·have:(L.map λq=>(q.1,(e q.2.1,f q.2.2))).map Prod.snd=QJ e f (L.map Prod.snd):=by simp[QJ]
    rw[this];exact hperm.map _
   obtain⟨q',hq',rfl⟩:=Ye.1 hq;exact(e2 q' hq').2
  exact h2.elim
 exact AK.weakenE key λi=>h _ _ _ i.2.1 i.2.2
def R.closeMap {b bm O:Nat}{L:L_ (Nat×(V×V))}{l:L_ (V×V)}(hb:look Y.hp b=X (.mapX bm O L l)){a:Act}{w:World}(h:R C Y a w):R C (Y.set b (.map l)) a w:=by
 obtain⟨Z,hr⟩:=h;refine⟨Z,hr.say' hb (λB hB hrep=>?_) (λe'=>e'.elim)⟩;obtain⟨h1,M,rfl,h2,h3,h4,h5,h6⟩:=hrep;refine⟨(M.map Prod.fst).toArray,O,h2,h3,h4,by have:=h5.length_eq;simpa using this,λx hx=>?_,λp hp=>?_⟩
 ·obtain⟨q,hq,rfl⟩:=Ye.1 (by simpa using hx:x∈M.map Prod.fst);exact⟨q.2,h5.mem_iff.1 (List.mem_map_of_mem hq),(h6 q hq).1,(h6 q hq).2⟩
 obtain⟨q,hq,rfl⟩:=Ye.1 (h5.mem_iff.2 hp);exact⟨q.1,by simpa using (⟨q.2.1,q.2.2,hq⟩:∃a b,(q.1,a,b)∈M),(h6 q hq).1,(h6 q hq).2⟩
def AK.closeMap {b bm O:Nat}{L:L_ (Nat×(V×V))}{l:L_ (V×V)}{pt:Pt}(hb:look Y.hp b=X (.mapX bm O L l))(k:AK P C Q pt ks (Y.set b (.map l))):AK P C Q pt ks Y:=AK.weaken (λ_ _ h=>R.closeMap hb h) k
def AK.grpMap {b z K:Nat}{κ α:Type}[DecidableEq κ]{e:κ->V}{f:α->L_ V}{val:κ->Value}{l:L_ (κ×L_ α)}{pt:Pt}(hk:Dh P K e val)(hp:Nat.ble 635 b=f_)(O:look Y.hp b=X (.grp z (OJ e f l) n_))
  (k:AK P C Q pt ks (Y.set b (.map (QJ e (λx=>V.sl z (x.map f)) l)))):AK P C Q pt ks Y:=AK.weaken (λ_ _ h=>R.grpMapT hk hp h O) k
def Stp.range {T d b bm O K E:Nat}{x:Operand}{L:L_ (Nat×(V×V))}{l:L_ (V×V)}(ho:o.op=.range T x)(hd:o.dst=X d)(hn:B_ d C)(hx:Y.opd x=X (.map b))(hb:look Y.hp b=X (.mapX bm O L l))
  (hT:IZ P T=X (K,E)) (hf:look Y.hp d=n_):Stp P C o Y ((Y.set d (.itr bm O #[] n_)).put d (.loc d 0 0)):=by
 refine Stp.val λZ a w hr=>?_;obtain⟨B,hB,hev⟩:=(hr.opd hx).map_inv;obtain⟨rfl,M,rfl,h2,_⟩:=hr.block hB hb;refine⟨.pointer (X ⟨w.heap.size,0,n_⟩),w.alloc (.mapIter (X B.b) O #[] O),ext Z d ⟨w.heap.size,1,0,[],0⟩,?_,?_⟩
 ·simp only[execOp,ho,hev,Xh,run_range_map w T K E B.b _ O (EZ hT) h2,Xp,Xq]
 rw[hd];refine(hr.alloc (cap:=1) (z:=0) hf (C.slot hn) (ob:=.itr B.b O #[] n_) (obj:=.mapIter (X B.b) O #[] O) ⟨heap_alloc_new w _,rfl,λx h=>by cases h⟩).put (Xv hn) ?_;exact .loc d 0 0 ⟨w.heap.size,1,0,[],0⟩ (Xb _ _ _)
def Stp.range0 {T d K E:Nat}{x:Operand}(ho:o.op=.range T x)(hd:o.dst=X d)(O:B_ d C)(hx:Y.opd x=X (.lit (.map n_)))(hT:IZ P T=X (K,E))(hf:look Y.hp d=n_):
  Stp P C o Y ((Y.set d .itr0).put d (.loc d 0 0)):=by
 refine Stp.val λZ a w hr=>?_;have h:=(hr.opd hx).lit_inv;refine⟨.pointer (X ⟨w.heap.size,0,n_⟩),w.alloc (.mapIter n_ 0 #[] 0),ext Z d ⟨w.heap.size,1,0,[],0⟩,?_,?_⟩
 ·simp only[execOp,ho,h,Xh,run_range_nilMap w T K E (EZ hT),Xp,Xq]
 rw[hd];refine(hr.alloc (cap:=1) (z:=0) hf (C.slot O) (ob:=.itr0) (obj:=.mapIter n_ 0 #[] 0) ⟨#[],0,heap_alloc_new w _,rfl⟩).put (Xv O) ?_;exact .loc d 0 0 ⟨w.heap.size,1,0,[],0⟩ (Xb _ _ _)
def Stp.next0 {d b:Nat}{x:Operand}(ho:o.op=.next x f_)(hd:o.dst=X d)(hn:B_ d C)(O:Y.opd x=X (.loc b 0 0))(hb:look Y.hp b=X .itr0):Stp P C o Y (Y.put d (.tup [.b f_])):=by
 refine Stp.val λZ a w hr=>?_;obtain⟨B,hB,h⟩:=(hr.opd O).loc_inv;obtain⟨s,c,h1,h0⟩:=hr.block hB hb;refine⟨.tuple #[.bool f_],w,Z,?_,?_⟩
 ·simp only[Ib,PO,h0]at h;simp only[execOp,ho,h,Xh];have:(Instr.next (.pointer (X ⟨B.b,0,n_⟩)) f_ o.type).run P w=.ok (.tuple #[.bool f_]) w:=by
   simp only[Instr.next,getObj,Xh,Sem.run,h1,Result.andThen];rfl
  rw[this];rfl
 rw[hd];refine hr.put (Xv hn) (.tup _ _ rfl λj x v O hv=>?_);cases j with|zero=>simp at O hv;subst O;subst hv;exact .dat (.b _)|succ j=>simp at O
def Stp.entry {d b m bm h:Nat}{x:Operand}{L:L_ (Nat×(V×V))}{l:L_ (V×V)}{seen:Array Nat}{q:Nat×(V×V)}(ho:o.op=.entry x)(hd:o.dst=X d)(hn:B_ d C)(O:Y.opd x=X (.loc b 0 0))
  (hb:look Y.hp b=X (.itr bm h seen (X q.1))) (hm:look Y.hp m=X (.mapX bm h L l)) (hq:q∈L):Stp P C o Y (Y.put d (.tup [q.2.1,q.2.2])):=by
 refine Stp.same hd hn λZ a w hr=>?_;obtain⟨B,hB,hev⟩:=(hr.opd O).loc_inv;obtain⟨h1,h0,h2⟩:=hr.block hB hb;obtain⟨s0,rfl⟩:=h2 _ rfl;rcases hr.heap m _ hm with⟨M,hM,g1,N,rfl,g2,g3,g4,g5,g6⟩|⟨_,e'⟩
 ·obtain⟨q,hn,rfl⟩:=Ye.1 hq;refine⟨.tuple #[q.1.key,q.1.val],?_,.tup _ _ rfl λj x v O hv=>?_⟩
  ·simp only[Ib,PO,h0]at hev;subst g1;have he:=run_entry_at (P:=P) w B.b M.b h s0 _ h q.1 h1 g2 (by simpa using (⟨q.2.1,q.2.2,hn⟩:∃a b,(q.1,a,b)∈N)) g3.2.1;simp only[execOp,ho,hev,Xh,he,Xp,Xq]
  cases j with
  |zero=>simp at O hv;subst O;subst hv;exact .dat (g6 q hn).1|succ j=>
   cases j with|zero=>simp at O hv;subst O;subst hv;exact .dat (g6 q hn).2|succ j=>simp at O
 exact e'.elim
def Qly {π:Type}{N:L_ (MapEntry×π)}{h:Array Nat}:(leftOf (N.map Prod.fst).toArray h).toList=(N.filter λq=>!h.contains q.1.born).map Prod.fst:=by
 simp only[leftOf,Array.toList_filter,List.filter_map];rfl
def Qne {π:Type}{N:L_ (MapEntry×π)}{h:Array Nat}:YC (N.map λq=>(q.1.born,q.2)) h=(N.filter λq=>!h.contains q.1.born).map λq=>(q.1.born,q.2):=by
 simp only[YC,List.filter_map];rfl
def AK.next {d b m bm h:Nat}{x:Operand}{ops:Array Oper}{rest:L_ Oper}{L:L_ (Nat×(V×V))}{l:L_ (V×V)}{O:Array Nat}{cur:O_ Nat}(hg:o.guard=n_)(ho:o.op=.next x f_)(hd:o.dst=X d)(hn:B_ d C)
  (hx:Y.opd x=X (.loc b 0 0)) (hb:look Y.hp b=X (.itr bm h O cur)) (hm:look Y.hp m=X (.mapX bm h L l)) (hbm:Nat.beq b m=f_)
  (hdone:YC L O=[]->AK P C Q (.o ops rest) ks (Y.put d (.tup [.b f_])))
  (hpick:∀q∈YC L O,AK P C Q (.o ops rest) ks ((Y.set b (.itr bm h (O.push q.1) (X q.1))).put d (.tup [.b t_,.J,.J]))):AK P C Q (.o ops (o::rest)) ks Y:=by
 intro a w ⟨Z,hr⟩;simp only[wpListIn,Region.wanted,hg,if_true];obtain⟨B,hB,hev⟩:=(hr.opd hx).loc_inv;obtain⟨h1,h0,h2⟩:=hr.block hB hb;simp only[Ib,PO,h0]at hev;rcases hr.heap m _ hm with⟨M,hM,g1,N,rfl,g2,g3,g4,g5,g6⟩|⟨_,e'⟩
 ·subst g1;refine⟨λ_ _=>trivial,?_⟩;rw[Oper.semAt_eq _ _ _ (by rw[ho];intro c hc;cases hc)];have hold:∀y∈(N.map Prod.fst).toArray.toList,y.born<h:=g3.1;rcases run_next_at (P:=P) w o.type B.b M.b h h O _ h h1 g2 hold (YK _)with⟨k1,k2⟩|⟨e,k1,w1,k2,k3⟩
  ·simp only[execOp,ho,hev,Xh,k2,Xp,Xq];rw[Oper.uponIn_value];refine hdone ?_ _ _ ⟨Z,?_⟩
   ·have h3:(leftOf (N.map Prod.fst).toArray O).toList.length=0:=by simpa using k1
    rw[Qly]at h3;exact Np.1 (by simpa[Qne] using h3)
   rw[hd];refine hr.put (Xv hn) (.tup _ _ rfl λj x v hx hv=>?_);cases j with|zero=>simp at hx hv;subst hx;subst hv;exact .dat (.b _)|succ j=>simp at hx
  simp only[execOp,ho,hev,Xh,k3,Xp,Xq];rw[Oper.uponIn_value];rw[Qly]at k1;obtain⟨q,hq,rfl⟩:=Ye.1 k1;refine hpick (q.1.born,q.2) (by rw[Qne];exact Ye.2 ⟨q,hq,rfl⟩) _ _ ?_;have hr1:RR C Z Y a w1:=by
   rcases k2 with rfl|rfl
   ·exact hr
   exact hr.step rfl rfl rfl (YK _) (λ_ _=>rfl)
  have hheap:w1.heap=w.heap:=by rcases k2 with rfl|rfl<;>rfl
  have hlt:=(hr1.lt b B B.b hB B.self).1;have h4:RR C Z (Y.set b (.itr M.b h (O.push q.1.born) (X q.1.born))) a (Go.ChangeMaps.setBlock w1 B.b (.mapIter (X M.b) h (O.push q.1.born) h)):=by
   refine hr1.write hB (by rfl) (by rfl) (by rfl) ?_ ?_ ?_
   ·simp[Go.ChangeMaps.setBlock]
   ·intro k hk;simp only[Go.ChangeMaps.setBlock];exact GH _ (λe=>hk e)
   refine⟨?_,h0,λx e=>?_⟩
   ·simp[Go.ChangeMaps.setBlock,QeW,hlt]
   cases e;exact⟨O,rfl⟩
  refine⟨Z,?_⟩;rw[hd];refine h4.put (Xv hn) (.tup _ _ rfl λj x v hx hv=>?_);cases j with
  |zero=>simp at hx hv;subst hx;subst hv;exact .dat (.b _)|succ j=>
   cases j with
   |zero=>simp at hx hv;subst hv;exact .dat (.J _)|succ j=>
    cases j with|zero=>simp at hx hv;subst hv;exact .dat (.J _)|succ j=>simp at hx
 exact e'.elim
def Qqr {κ α:Type}{e:κ->V}{f:α->V}{L:L_ (Nat×(κ×α))}{h:Array Nat}:YC (CV e f L) h=CV e f (YC L h):=by
 simp only[YC,CV,List.filter_map];rfl
def AK.nextT {d b m bm O:Nat}{x:Operand}{ops:Array Oper}{rest:L_ Oper}{κ α:Type}{e:κ->V}{f:α->V}{L:L_ (Nat×(κ×α))}{l:L_ (V×V)}{seen:Array Nat}{cur:O_ Nat}(hg:o.guard=n_)(ho:o.op=.next x f_)(hd:o.dst=X d)
  (hn:B_ d C) (hx:Y.opd x=X (.loc b 0 0)) (hb:look Y.hp b=X (.itr bm O seen cur)) (hm:look Y.hp m=X (.mapX bm O (CV e f L) l)) (hbm:Nat.beq b m=f_)
  (hdone:YC L seen=[]->AK P C Q (.o ops rest) ks (Y.put d (.tup [.b f_])))
  (hpick:∀x k v,(x,(k,v))∈YC L seen->AK P C Q (.o ops rest) ks ((Y.set b (.itr bm O (seen.push x) (X x))).put d (.tup [.b t_,.J,.J]))):AK P C Q (.o ops (o::rest)) ks Y:=by
 refine AK.next hg ho hd hn hx hb hm hbm (λh=>hdone ?_) (λq hq=>?_)
 ·rw[Qqr]at h;simpa[CV] using h
 rw[Qqr]at hq;obtain⟨q',hq',rfl⟩:=Ye.1 hq;exact hpick q'.1 q'.2.1 q'.2.2 hq'
def Stp.entryT {d b m bm h:Nat}{x:Operand}{κ α:Type}{e:κ->V}{f:α->V}{L:L_ (Nat×(κ×α))}{l:L_ (V×V)}{O:Array Nat}{y:Nat}{k:κ}{v:α}(ho:o.op=.entry x)(hd:o.dst=X d)(hn:B_ d C)(hx:Y.opd x=X (.loc b 0 0))
  {s0:Array Nat} (hq:(y,(k,v))∈YC L s0) (hb:look Y.hp b=X (.itr bm h O (X y))) (hm:look Y.hp m=X (.mapX bm h (CV e f L) l)):Stp P C o Y (Y.put d (.tup [e k,f v])):=
 Stp.entry (q:=(y,(e k,f v))) ho hd hn hx hb hm (Ye.2 ⟨(y,(k,v)),(AD.1 hq).1,rfl⟩)
def AK.loopOnce {c:Code}(h:AK P C Q (.c c) (.cut (λ_=>False)::ks) Y):AK P C Q (.c (.loop c)) ks Y:=by
 intro a w hR;refine wpIn_loop_rounds 1 ?_;rw[roundsIn_succ];refine wpIn_mono (h a w hR) ?_;rintro e a' w' ⟨σ',O,h2⟩;cases e<;>first|exact O.elim|exact⟨σ',O,h2⟩
def QAf {τ ρ π:Type}(body:τ->π->O_ (τ⊕ρ))(L:L_ (Nat×π))(E:τ->Array Nat->St->Prop)(O:ρ->Exit->St->Prop)(PD:τ->Exit->St->Prop)(s:τ)(h:Array Nat):Exit->St->Prop:=λe σ'=>
 (YC L h=[]/\e≠.normal/\PD s e σ')\/∃q∈YC L h,(∃s',body s q.2=X (.inl s')/\e=.normal/\E s' (h.push q.1) σ')\/(∃r,body s q.2=X (.inr r)/\e≠.normal/\O r e σ')
def AK.range {τ ρ π:Type}{body:τ->π->O_ (τ⊕ρ)}{c:Code}{lt:L_ π}{L:L_ (Nat×π)}(E:τ->Array Nat->St->Prop)(Post:ρ->Exit->St->Prop)(PD:τ->Exit->St->Prop){s0:τ}{r:τ⊕ρ}(hn:(L.map (·.1)).Nodup)(hp:(L.map Prod.snd).Perm lt)
  (hr:Ih body s0 lt=X r) (h0:E s0 #[] Y)
  (round:∀s O Y,E s O Y->(∀q∈YC L O,∃o,body s q.2=X o)->AK P C (QAf body L E Post PD s O) (.c c) [] Y)
  (hQ:∀e σ',(Sum.elim (λs=>PD s e σ') (λq=>Post q e σ') r)->AK P C Q (.x e) ks σ'):AK P C Q (.c (.loop c)) ks Y:=by
 obtain⟨hperm,hrun⟩:=Hp.1 hr;have key:∀(k:Nat) (s:τ) (O:Array Nat),(YC L O).length=k->(∃dn,(dn++(YC L O).map Prod.snd).Perm lt/\JP body s0 dn=X (.inl s))->∀Y a w,E s O Y->R C Y a w->
   Code.roundsIn C.F 0 P c (up C λe σ'=>Sum.elim (λs=>PD s e σ') (λq=>Post q e σ') r) (k+1) a w:=by
  intro k
  induction k with
  |zero=>
   rintro s O hk ⟨dn,hd1,hd2⟩ Y a w hE hR;have hnil:=Np.1 hk;rw[roundsIn_succ];refine wpIn_mono (round s O Y hE (λq hq=>by rw[hnil]at hq;cases hq) a w hR) ?_;rintro e a' w' ⟨σ',hq,hR'⟩;rcases hq with⟨_,h2,h3⟩|⟨q,hq,_⟩
   ·rw[hnil]at hd1;have:JP body s0 dn=X r:=by rw[<-hrun];exact hperm dn (by simpa using hd1)
    rw[this]at hd2;cases hd2;cases e<;>first|exact absurd rfl h2|exact⟨σ',h3,hR'⟩
   rw[hnil]at hq;cases hq
  |succ k ih=>
   rintro s O hk ⟨dn,hd1,hd2⟩ Y a w hE hR;rw[roundsIn_succ];have hall:∀q∈YC L O,∃o,body s q.2=X o/\∃rest,(dn++q.2::rest).Perm lt/\rest=(YC L (O.push q.1)).map Prod.snd:=λq hq=>by
    have h1:=(QbD hn hq).map Prod.snd;have h2:(dn++q.2::(YC L (O.push q.1)).map Prod.snd).Perm lt:=((List.Perm.append_left dn h1).symm).trans hd1;have h3:JP body s0 (dn++q.2::(YC L (O.push q.1)).map Prod.snd)=X r:=by rw[<-hrun];exact hperm _ h2
    rw[Zp,hd2]at h3;simp only[Qh,Sum.elim_inl,JP]at h3;cases hb:body s q.2 with
    |none=>rw[hb]at h3;cases h3
    |some o=>exact⟨o,rfl,_,h2,rfl⟩
   refine wpIn_mono (round s O Y hE (λq hq=>let ⟨o,h,_⟩:=hall q hq;⟨o,h⟩) a w hR) ?_;rintro e a' w' ⟨σ',hq,hR'⟩;rcases hq with⟨h1,_,_⟩|⟨q,hq,⟨s',h1,rfl,h3⟩|⟨r',h1,h2,h3⟩⟩
   ·rw[h1]at hk;cases hk
   ·obtain⟨_,_,rest,h5,h6⟩:=hall q hq;refine ih s' (O.push q.1) ?_ ⟨dn++[q.2],?_,?_⟩ σ' a' w' h3 hR'
    ·have:=(QbD hn hq).length_eq;simp at this;omega
    ·rw[WC,List.singleton_append,<-h6];exact h5
    rw[Zp,hd2];simp only[Qh,Sum.elim_inl,JP,h1]
   obtain⟨_,_,rest,h5,h6⟩:=hall q hq;have h7:JP body s0 (dn++q.2::rest)=X r:=by rw[<-hrun];exact hperm _ h5
   rw[Zp,hd2]at h7;simp only[Qh,Sum.elim_inl,JP,h1,Sum.elim_inr]at h7;cases h7;cases e<;>first|exact absurd rfl h2|exact⟨σ',h3,hR'⟩
 intro a w hR;have hL:YC L #[]=L:=by simp[YC]
 refine wpIn_mono (wpIn_loop_rounds _ (key _ s0 #[] rfl ⟨[],by rw[hL];simpa using hp,rfl⟩ Y a w h0 hR)) ?_;rintro e a' w' ⟨σ',h1,h2⟩;exact hQ e σ' h1 a' w' h2
end
end Go.Vm
