/- A part of the proof. -/
import Derived.Test.YtkocdcoeinjdbaaGreatDoorK2V1
import Derived.Laws.StructEq
import Derived.Laws.Cover3
set_option linter.all false
namespace Go.Vm
open Go Go.RowKit
section
variable {κ α β:Type}[DecidableEq κ]
def Xb : L_ (κ×α)->κ->O_ α
 | [],_=>none
 | (a,x)::r,k=>if a=k then some x else Xb r k
def CX (lt:κ->κ->Bool):L_ (κ×α)->κ->α->L_ (κ×α)
 | [],k,v=>[(k,v)]
 | (a,x)::r,k,v=>if lt k a=true then(k,v)::(a,x)::r else(a,x)::CX lt r k v
def FZ : L_ (κ×α)->κ->α->L_ (κ×α)
 | [],_,_=>[]
 | (a,x)::r,k,v=>if a=k then(k,v)::r else(a,x)::FZ r k v
def Jd (lt:κ->κ->Bool)(l:L_ (κ×α))(k:κ)(v:α):L_ (κ×α):=match Xb l k with
 | some _=>FZ l k v
 | none=>CX lt l k v
def ZO : ∀{l:L_ (κ×α)} {k:κ} {v:α},Xb l k=some v->(k,v)∈l:=by
 intro l
 induction l with
 | nil=>intro k v h;cases h
 | cons p l y=>
  intro k v h
  obtain⟨a,x⟩:=p
  rw[Xb]at h
  split at h
  ·rename_i e;subst e;cases h;exact YF
  exact Jz _ (y h)
def Vd : ∀{l:L_ (κ×α)} {k:κ} {v:α},(l.map Prod.fst).Nodup->(k,v)∈l->Xb l k=some v:=by
 intro l
 induction l with
 | nil=>intro k v _ h;cases h
 | cons p l D=>
  intro k v y h
  obtain⟨a,x⟩:=p
  rw[GK,Ft]at y
  rw[Xb]
  rcases XQ.1 h with h | h
  ·cases h;simp
  have:a≠k:=λe=>y.1 (by rw[show(a,x).1=k from e];exact Yl.2 ⟨(k,v),h,rfl⟩)
  rw[if_neg this];exact D y.2 h
def QjJ : ∀{l:L_ (κ×α)} {k:κ},Xb l k=none->∀p∈l,p.1≠k:=by
 intro l
 induction l with
 | nil=>intro k _ p h;cases h
 | cons q l D=>
  intro k h p hp
  obtain⟨a,x⟩:=q
  rw[Xb]at h
  split at h
  ·cases h
  rename_i y
  rcases XQ.1 hp with e | hp
  ·subst e;exact y
  exact D h p hp
def Qbk (lt:κ->κ->Bool):∀(l:L_ (κ×α)) (k:κ) (v:α),(CX lt l k v).Perm ((k,v)::l):=by
 intro l
 induction l with
 | nil=>intro k v;exact .refl _
 | cons p l h=>
  intro k v
  obtain⟨a,x⟩:=p
  rw[CX]
  split
  ·exact .refl _
  exact((h k v).cons (a,x)).trans (.swap _ _ _)
def Qdo : ∀(l:L_ (κ×α)) (k:κ) (v:α),(FZ l k v).map Prod.fst=l.map Prod.fst:=by
 intro l
 induction l with
 | nil=>intro k v;rfl
 | cons p l h=>
  intro k v
  obtain⟨a,x⟩:=p
  rw[FZ]
  split
  ·rename_i e;subst e;rfl
  rw[GK,GK,h]
def QkG : ∀{l:L_ (κ×α)} {k:κ} {v:α},(l.map Prod.fst).Nodup->(∃x,(k,x)∈l)->∀p,p∈FZ l k v↔p=(k,v)\/(p∈l/\p.1≠k):=by
 intro l
 induction l with
 | nil=>intro k v _ ⟨x,h⟩;cases h
 | cons q l ih=>
  intro k v hn ⟨x,hx⟩ p
  obtain⟨a,y⟩:=q
  rw[GK,Ft]at hn
  rw[FZ]
  split
  ·rename_i e
   subst e
   have hno:∀p∈l,p.1≠a:=λp hp e=>hn.1 (Yl.2 ⟨p,hp,e⟩)
   constructor
   ·intro h
    rcases XQ.1 h with h | h
    ·exact .inl h
    exact .inr ⟨Jz _ h,hno p h⟩
   rintro (h | ⟨h,h'⟩)
   ·rw[h];exact YF
   rcases XQ.1 h with h | h
   ·subst h;exact absurd rfl h'
   exact Jz _ h
  rename_i D
  have hx':(k,x)∈l:=by
   rcases XQ.1 hx with h | h
   ·cases h;exact absurd rfl D
   exact h
  have:=ih hn.2 ⟨x,hx'⟩ (v:=v) p
  rw[XQ,this,XQ]
  constructor
  ·rintro (h | h | h)
   ·subst h;exact .inr ⟨.inl rfl,D⟩
   ·exact .inl h
   exact .inr ⟨.inr h.1,h.2⟩
  rintro (h | ⟨h | h,h'⟩)
  ·exact .inr (.inl h)
  ·exact .inl h
  exact .inr (.inr ⟨h,h'⟩)
def QiT (lt:κ->κ->Bool){l:L_ (κ×α)}{k:κ}{v:α}(h:(l.map Prod.fst).Nodup):((Jd lt l k v).map Prod.fst).Nodup:=by
 unfold Jd
 split
 ·rw[Qdo];exact h
 rename_i D
 refine(((Qbk lt l k v).map Prod.fst).nodup_iff).2 ?_
 rw[GK,Ft]
 refine⟨λy=>?_,h⟩
 obtain⟨p,hp,e⟩:=Yl.1 y
 exact QjJ D p hp e
end
def QG {κ α:Type}(e:κ->V)(f:α->V)(l:L_ (κ×α)):L_ (V×V):=l.map λp=>(e p.1,f p.2)
structure Eu (P:Program) (K:TypeId) {κ:Type} (e:κ->V) (val:κ->Value):Prop where
 d:∃D,P.underlying K=some D/\∀k,MapKept.IsKey D (val k)
 inv:∀I w x k,Xy I w x (e k)->x=val k
 dat:∀I w k,Xy I w (val k) (e k)
 edat:∀k,(e k).dat=true
 inj:∀a b,val a=val b->a=b
 einj:∀a b,e a=e b->a=b
def Qma (P:Program)(K:TypeId)(h:IntKind):Bool:=match P.underlying K with
 | some (.int k)=>decide (k=h)
 | _=>false
def Eu.int {P:Program}{K:TypeId}{y:IntKind}(h:Qma P K y=true):Eu P K (V.i y) (Value.int y):=by
 unfold Qma at h
 split at h
 ·rename_i k D
  have:=XC h
  subst this
  refine⟨⟨_,D,λ_=>rfl⟩,λI w x k h=>by cases h;rfl,λI w k=>.i _ _,λ_=>rfl,λa b h=>by cases h;rfl,λa b h=>by cases h;rfl⟩
 cases h
def Eu.str {P:Program}{K:TypeId}(h:Qbf P K=true):Eu P K V.s Value.string:=
 ⟨⟨_,Qdm h,λ_=>trivial⟩,λI w x k h=>by cases h;rfl,λI w k=>.s _,λ_=>rfl,λa b h=>by cases h;rfl,λa b h=>by cases h;rfl⟩
section
variable {P:Program}{K:TypeId}{κ α:Type}[DecidableEq κ]{e:κ->V}{val:κ->Value}{f:α->V}{I:Nat->Prop}{w:World}{B:Xa}{l:L_ (κ×α)}
def Mz (D:∀a b,e a=e b->a=b):((QG e f l).map Prod.fst).Nodup↔(l.map Prod.fst).Nodup:=by
 have:(QG e f l).map Prod.fst=(l.map Prod.fst).map e:=by simp[QG]
 rw[this]
 constructor
 ·intro h;exact(PU.1 h).imp λy e'=>y (by rw[e'])
 intro h;exact PU.2 (h.imp λy e'=>y (D _ _ e'))
def Df.find (hk:Eu P K e val){D:TypeDesc}(hD:P.underlying K=some D)(h:Df I w B (QG e f l))(k:κ):∃es clock,w.heap[B.b]? = some (.map es clock)/\MapKept.Stamped es clock/\(l.map Prod.fst).Nodup/\
  es.size=l.length/\MapKept.IsKey D (val k)/\
  ((Xb l k=none/\Instr.findNow D (val k) es.toList 0=some none/\∀x∈es.toList,x.key≠val k)\/
   ∃j x v,Xb l k=some v/\Instr.findNow D (val k) es.toList 0=some (some (j,x.val))/\es[j]? = some x/\x.key=val k/\Xy I w x.val (f v)):=by
 obtain⟨es,clock,h1,h2,h3,h4,h5,h6⟩:=h
 obtain⟨D',hD',hK⟩:=hk.d
 rw[hD]at hD';cases hD'
 have hn:=(Mz hk.einj).1 h3
 have hrow:∀x∈es.toList,∃a y,(a,y)∈l/\x.key=val a/\Xy I w x.val (f y):=λx hx=>by
  obtain⟨p,hp,a1,a2⟩:=h5 x hx
  obtain⟨q,hq,rfl⟩:=Yl.1 hp
  exact⟨q.1,q.2,hq,hk.inv _ _ _ _ a1,a2⟩
 have hks:∀x∈es.toList,MapKept.IsKey D x.key:=λx hx=>by obtain⟨a,y,_,e1,_⟩:=hrow x hx;rw[e1];exact hK a
 refine⟨es,clock,h1,h2,hn,by rw[h4,QG,BW],hK k,?_⟩
 rcases MapKept.findNow_spec (hK k) es.toList 0 hks with⟨g1,g2⟩|⟨j,x,g1,g2,g3⟩
 ·refine .inl ⟨?_,g1,g2⟩
  cases hg:Xb l k with
  | none=>rfl
  | some v=>
   obtain⟨x,hx,a1,_⟩:=h6 (e k,f v) (Yl.2 ⟨(k,v),ZO hg,rfl⟩)
   exact absurd (hk.inv _ _ _ _ a1) (g2 x hx)
 obtain⟨a,y,hm,e1,e2⟩:=hrow x (XU g2)
 have:a=k:=hk.inj _ _ (by rw[<-e1,g3])
 subst this
 exact .inr ⟨j,x,y,Vd hn hm,by simpa using g1,by simpa using g2,g3,e2⟩
end
def LJ (P:Program)(T:TypeId):O_ (TypeId×TypeId):=match P.underlying T with
 | some (.map k e)=>some (k,e)
 | _=>none
def AD {P:Program}{T k e:TypeId}(h:LJ P T=some (k,e)):P.underlying T=some (.map k e):=by
 unfold LJ at h
 split at h
 ·rename_i y;cases h;exact y
 cases h
section
variable {P:Program}{C:XA}{σ:St}{o:Oper}
def Qf.makeMap {T d:Nat}(ho:o.op=.makeMap T none)(y:o.dst=some d)(h:B_ d C)(D:look σ.hp d=none):Qf P C o σ ((σ.set d (.map [])).put d (.map d)):=by
 refine Qf.val λφ a w hr=>?_
 refine⟨.map (some w.heap.size),w.alloc (.map #[] 0),ext φ d ⟨w.heap.size,0,0,[],0⟩,?_,?_⟩
 ·simp[execOp,ho,Instr.makeMap]
 rw[y]
 refine(hr.alloc (cap:=0) (z:=0) D (C.slot h) (ob:=.map []) (obj:=.map #[] 0) ⟨#[],0,heap_alloc_new w _,MapKept.stamped_empty 0,by simp,rfl,by simp,by simp⟩).put (XP h) ?_
 exact .map d ⟨w.heap.size,0,0,[],0⟩ (XD _ _ _)
def Cu (P:Program)(T:TypeId)(z:V):Prop:=∃i x,P.info? T=some i/\i.zero=some x/\∀I w,Xy I w x z
def Qf.lookup {T d b K E:Nat}{x y:Operand}{κ α:Type}[DecidableEq κ]{e:κ->V}{val:κ->Value}{f:α->V}{l:L_ (κ×α)}{k:κ}{z:α}{v:V}(ho:o.op=.lookup T x y false)(hd:o.dst=some d)
  (hn:B_ d C) (hx:σ.opd x=some (.map b)) (hb:look σ.hp b=some (.map (QG e f l))) (hy:σ.opd y=some (e k)) (hT:LJ P T=some (K,E)) (hk:Eu P K e val) (hz:Cu P E (f z))
  (hv:f ((Xb l k).getD z)=v):Qf P C o σ (σ.put d v):=by
 refine Qf.same hd hn λφ a w hr=>?_
 subst hv
 obtain⟨B,hB,he⟩:=(hr.opd hx).map_inv
 have hyv:a.eval y=val k:=hk.inv _ _ _ _ ((hr.opd hy).toDat (hk.edat k))
 obtain⟨D,h,_⟩:=hk.d
 obtain⟨es,clock,h1,h2,h3,h4,h5,h6⟩:=Df.find hk h (hr.block hB hb) k
 obtain⟨i,zx,hi,hzx,hzd⟩:=hz
 rcases h6 with⟨g1,g2,_⟩|⟨j,xx,v,g1,g2,g3,g4,g5⟩
 ·refine⟨zx,?_,by rw[g1];exact .dat (hzd _ _)⟩
  simp[execOp,ho,he,hyv,Instr.lookup,run_underlying (AD hT),MapKept.run_getObj_map h1,MapKept.run_checkKey h h5,MapKept.run_findKey h g2,zeroValue,typeInfo,hi,hzx]
 refine⟨xx.val,?_,by rw[g1];exact .dat g5⟩
 simp[execOp,ho,he,hyv,Instr.lookup,run_underlying (AD hT),MapKept.run_getObj_map h1,MapKept.run_checkKey h h5,MapKept.run_findKey h g2]
def Qf.lookupOk {T d b K E:Nat}{x y:Operand}{κ α:Type}[DecidableEq κ]{e:κ->V}{val:κ->Value}{f:α->V}{l:L_ (κ×α)}{k:κ}{z:α}{v:V}{t:Bool}(ho:o.op=.lookup T x y true)(hd:o.dst=some d)
  (hn:B_ d C) (hx:σ.opd x=some (.map b)) (hb:look σ.hp b=some (.map (QG e f l))) (hy:σ.opd y=some (e k)) (hT:LJ P T=some (K,E)) (hk:Eu P K e val) (hz:Cu P E (f z))
  (hv:f ((Xb l k).getD z)=v) (ht:(Xb l k).isSome=t):Qf P C o σ (σ.put d (.tup [v,.b t])):=by
 refine Qf.same hd hn λφ a w hr=>?_
 subst hv ht
 obtain⟨B,hB,he⟩:=(hr.opd hx).map_inv
 have hyv:a.eval y=val k:=hk.inv _ _ _ _ ((hr.opd hy).toDat (hk.edat k))
 obtain⟨D,h,_⟩:=hk.d
 obtain⟨es,clock,h1,h2,h3,h4,h5,h6⟩:=Df.find hk h (hr.block hB hb) k
 obtain⟨i,zx,hi,hzx,hzd⟩:=hz
 have two:∀{x:Value} {u:V} {t:Bool},Xy (Xj C φ w) w x u->QO φ (Xj C φ w) w (.tuple #[x,.bool t]) (.tup [u,.b t]):=λ{x u t} h=>
  .dat (.tup _ _ rfl λj x' u' hx hu=>by
   match j with
   | 0=>simp at hx hu;subst hx;subst hu;exact h
   | 1=>simp at hx hu;subst hx;subst hu;exact .b _
   | j+2=>simp at hx)
 rcases h6 with⟨g1,g2,_⟩|⟨j,xx,v,g1,g2,g3,g4,g5⟩
 ·refine⟨.tuple #[zx,.bool false],?_,by rw[g1];exact two (hzd _ _)⟩
  simp[execOp,ho,he,hyv,Instr.lookup,run_underlying (AD hT),MapKept.run_getObj_map h1,MapKept.run_checkKey h h5,MapKept.run_findKey h g2,zeroValue,typeInfo,hi,hzx]
 refine⟨.tuple #[xx.val,.bool true],?_,by rw[g1];exact two g5⟩
 simp[execOp,ho,he,hyv,Instr.lookup,run_underlying (AD hT),MapKept.run_getObj_map h1,MapKept.run_checkKey h h5,MapKept.run_findKey h g2]
def DL {w:World}{r k:Nat}(o:Obj)(h:k≠r):(w.heap.setIfInBounds r o)[k]? = w.heap[k]? := by
 rw[TW,if_neg (Ne.symm h)]
def Qf.mapUpdateI {T b K E:Nat}{x y u:Operand}{κ α:Type}[DecidableEq κ]{e:κ->V}{val:κ->Value}{f:α->V}{l:L_ (κ×α)}{k:κ}{v:α}(lt:κ->κ->Bool)(ho:o.op=.mapUpdate T x y u\/o.op=.insert T x y u)(hd:o.dst=none)
  (hx:σ.opd x=some (.map b)) (hb:look σ.hp b=some (.map (QG e f l))) (hy:σ.opd y=some (e k)) (hu:σ.opd u=some (f v)) (hT:LJ P T=some (K,E)) (hk:Eu P K e val) (hv:(f v).dat=true):
  Qf P C o σ (σ.set b (.map (QG e f (Jd lt l k v)))):=by
 refine Qf.skp λφ a w hr=>?_
 obtain⟨B,hB,he⟩:=(hr.opd hx).map_inv
 have hyv:a.eval y=val k:=hk.inv _ _ _ _ ((hr.opd hy).toDat (hk.edat k))
 have huv:=(hr.opd hu).toDat hv
 obtain⟨D,hD,_⟩:=hk.d
 have hrep:=hr.block hB hb
 obtain⟨es,clock,h1,h2,h3,h4,h5,h6⟩:=Df.find hk hD hrep k
 obtain⟨es',clock',h1',_,_,_,r5,r6⟩:=hrep
 rw[h1]at h1';cases h1'
 have hlt:B.b<w.heap.size:=(hr.lt b B _ hB B.self).1
 have write:∀(es2:Array MapEntry) (h:Nat) (l2:L_ (κ×α)),MapKept.Stamped es2 h->(l2.map Prod.fst).Nodup->es2.size=l2.length->
   (∀x∈es2.toList,∃p∈l2,x.key=val p.1/\Xy (Xj C φ w) w x.val (f p.2))->(∀p∈l2,∃x∈es2.toList,x.key=val p.1/\Xy (Xj C φ w) w x.val (f p.2))->
   RR C φ (σ.set b (.map (QG e f l2))) a { w with heap:=w.heap.setIfInBounds B.b (.map es2 h) }:=by
  intro es2 h l2 a1 a2 a3 a4 a5
  have hI:∀k,Xj C φ w k->Xj C φ { w with heap:=w.heap.setIfInBounds B.b (.map es2 h) } k/\(w.heap.setIfInBounds B.b (.map es2 h))[k]? = w.heap[k]? := λk hk'=>
   ⟨⟨by simpa using hk'.1,hk'.2⟩,DL _ λe=>hk'.2.2 b B hB (.inl e)⟩
  refine hr.write hB rfl rfl rfl (by simp) (λk hne=>DL _ hne) ⟨es2,h,by simp[hlt],a1,(Mz hk.einj).2 a2,by rw[a3,QG,BW],λx hx=>?_,λp hp=>?_⟩
  ·obtain⟨p,hp,e1,e2⟩:=a4 x hx
   exact⟨_,Yl.2 ⟨p,hp,rfl⟩,by rw[e1];exact hk.dat _ _ _,e2.mono hI⟩
  obtain⟨q,hq,rfl⟩:=Yl.1 hp
  obtain⟨x,hx,e1,e2⟩:=a5 q hq
  exact⟨x,hx,by rw[e1];exact hk.dat _ _ _,e2.mono hI⟩
 have old1:∀x∈es.toList,∃p∈l,x.key=val p.1/\Xy (Xj C φ w) w x.val (f p.2):=λx hx=>by
  obtain⟨p,hp,a1,a2⟩:=r5 x hx
  obtain⟨q,hq,rfl⟩:=Yl.1 hp
  exact⟨q,hq,hk.inv _ _ _ _ a1,a2⟩
 have old2:∀p∈l,∃x∈es.toList,x.key=val p.1/\Xy (Xj C φ w) w x.val (f p.2):=λp hp=>by
  obtain⟨x,hx,a1,a2⟩:=r6 _ (Yl.2 ⟨p,hp,rfl⟩)
  exact⟨x,hx,hk.inv _ _ _ _ a1,a2⟩
 rcases h6 with⟨g1,g2,g3⟩|⟨j,xx,v0,g1,g2,g3,g4,g5⟩
 ·refine⟨{ w with heap:=w.heap.setIfInBounds B.b (.map (es.push { key:=val k,val:=a.eval u,born:=clock }) (clock+1)) },φ,?_,?_⟩
  ·rcases ho with ho | ho<;>simp[execOp,ho,he,hyv,Instr.mapUpdate,run_underlying (AD hT),MapKept.run_getObj_map h1,MapKept.run_checkKey hD h5,MapKept.run_findKey hD g2,MapKept.run_setObj_map _ h1]
  rw[hd]
  have hms:Jd lt l k v=CX lt l k v:=by unfold Jd;rw[g1]
  have hmem:∀p,p∈CX lt l k v↔p=(k,v)\/p∈l:=λp=>by rw[(Qbk lt l k v).mem_iff,XQ]
  rw[hms]
  refine write _ _ _ (MapKept.stamped_push h2 g3) (by rw[<-hms];exact QiT lt h3) (by rw[(Qbk lt l k v).length_eq];simp[h4]) (λx hx=>?_) (λp hp=>?_)
  ·simp only[Array.toList_push,Ep,HH]at hx
   rcases hx with hx | rfl
   ·obtain⟨p,hp,e1,e2⟩:=old1 x hx;exact⟨p,(hmem p).2 (.inr hp),e1,e2⟩
   exact⟨(k,v),(hmem _).2 (.inl rfl),rfl,huv⟩
  rcases(hmem p).1 hp with rfl | hp
  ·exact⟨{ key:=val k,val:=a.eval u,born:=clock },by simp,rfl,huv⟩
  obtain⟨x,hx,e1,e2⟩:=old2 p hp;exact⟨x,by simp only[Array.toList_push,Ep];exact .inl hx,e1,e2⟩
 refine⟨{ w with heap:=w.heap.setIfInBounds B.b (.map (es.modify j λx=>{ x with key:=val k,val:=a.eval u }) clock) },φ,?_,?_⟩
 ·rcases ho with ho | ho<;>simp[execOp,ho,he,hyv,Instr.mapUpdate,run_underlying (AD hT),MapKept.run_getObj_map h1,MapKept.run_checkKey hD h5,MapKept.run_findKey hD g2,MapKept.run_setObj_map _ h1,g3,g4,MapKept.run_keyThatStays h5]
 rw[hd]
 have hms:Jd lt l k v=FZ l k v:=by unfold Jd;rw[g1]
 have hmem:=QkG h3 ⟨v0,ZO g1⟩ (v:=v)
 have hlen:(FZ l k v).length=l.length:=by have:=congrArg List.length (Qdo l k v);simpa using this
 have hjlt:j<es.size:=(Ud.1 g3).1
 have hmod:∀i:Nat,(es.modify j λx=>{ x with key:=val k,val:=a.eval u })[i]? = if i=j then some { xx with key:=val k,val:=a.eval u }else es[i]? := λi=>by
  rw[Array.getElem?_modify]
  by_cases hij:j=i
  ·subst hij;simp[g3]
  rw[if_neg hij,if_neg (Ne.symm hij)]
 have hkeyj:∀i x,es[i]? = some x->x.key=val k->i=j:=λi x hx hxk=>by
  have hnd:=h2.2.2
  have i1:(es.toList.map (·.key))[i]? = some (val k):=by simp[Yb,hx,hxk]
  have i2:(es.toList.map (·.key))[j]? = some (val k):=by simp[Yb,g3,g4]
  exact(List.getElem?_inj (by simpa using (Ud.1 hx).1) hnd).1 (i1.trans i2.symm)
 rw[hms]
 refine write _ _ _ (MapKept.stamped_modify h2 _ _ (λ_ _=>rfl) λx _ hx=>by rw[g3]at hx;cases hx;exact g4.symm) (by rw[Qdo];exact h3) (by rw[Array.size_modify,h4,hlen]) (λx hx=>?_) (λp hp=>?_)
 ·obtain⟨i,hi⟩:=Mv.1 hx
  rw[TX,hmod]at hi
  split at hi
  ·cases hi;exact⟨(k,v),(hmem _).2 (.inl rfl),rfl,huv⟩
  rename_i hne
  obtain⟨p,hp,e1,e2⟩:=old1 x (by rw[Mv];exact⟨i,by simpa using hi⟩)
  exact⟨p,(hmem p).2 (.inr ⟨hp,λe=>hne (hkeyj i x hi (by rw[e1,e]))⟩),e1,e2⟩
 rcases(hmem p).1 hp with rfl | ⟨hp,hne⟩
 ·exact⟨_,Mv.2 ⟨j,by rw[TX,hmod,if_pos rfl]⟩,rfl,huv⟩
 obtain⟨x,hx,e1,e2⟩:=old2 p hp
 obtain⟨i,hi⟩:=Mv.1 hx
 refine⟨x,Mv.2 ⟨i,?_⟩,e1,e2⟩
 have hij:i≠j:=λe=>by
  subst e
  rw[TX,g3]at hi;cases hi
  exact hne (hk.inj _ _ (by rw[<-e1,g4]))
 rw[TX,hmod,if_neg hij,<-TX];exact hi
def Qf.mapUpdate {T b K E:Nat}{x y u:Operand}{κ α:Type}[DecidableEq κ]{e:κ->V}{val:κ->Value}{f:α->V}{l:L_ (κ×α)}{k:κ}{v:α}(lt:κ->κ->Bool)(ho:o.op=.mapUpdate T x y u)(hd:o.dst=none)
  (hx:σ.opd x=some (.map b)) (D:look σ.hp b=some (.map (QG e f l))) (hy:σ.opd y=some (e k)) (hu:σ.opd u=some (f v)) (h:LJ P T=some (K,E)) (hk:Eu P K e val) (hv:(f v).dat=true):
  Qf P C o σ (σ.set b (.map (QG e f (Jd lt l k v)))):=
 Qf.mapUpdateI lt (.inl ho) hd hx D hy hu h hk hv
def Qf.insert {T b K E:Nat}{x y u:Operand}{κ α:Type}[DecidableEq κ]{e:κ->V}{val:κ->Value}{f:α->V}{l:L_ (κ×α)}{k:κ}{v:α}(lt:κ->κ->Bool)(ho:o.op=.insert T x y u)(hd:o.dst=none)
  (hx:σ.opd x=some (.map b)) (D:look σ.hp b=some (.map (QG e f l))) (hy:σ.opd y=some (e k)) (hu:σ.opd u=some (f v)) (h:LJ P T=some (K,E)) (hk:Eu P K e val) (hv:(f v).dat=true):
  Qf P C o σ (σ.set b (.map (QG e f (Jd lt l k v)))):=
 Qf.mapUpdateI lt (.inr ho) hd hx D hy hu h hk hv
end
inductive Cv (σ:St) (dflt:Nat):Option Operand->Nat->Prop where
 | no:Cv σ dflt none dflt
 | val {x:Operand} {k:IntKind} {n:Int} {l:Nat}:σ.opd x=some (.i k n)->0<=n->n.toNat=l->Cv σ dflt (some x) l
section
variable {P:Program}{C:XA}{σ:St}{o:Oper}{φ:Nat->O_ Xa}{a:Act}{w:World}
def Fv {k:IntKind}{i:Int}{y:Nat}{h:BoundsCode}(D:0<=i)(h1:i.toNat<=y):(Instr.sliceBound (.int k i) y h).run P w=.ok i.toNat w:=by
 have:0<=i/\i<=(y:Int):=⟨D,by omega⟩
 simp[Instr.sliceBound,asIntOf,this]
def HJ (hr:RR C φ σ a w){lo hi:O_ Operand}{l h y cap:Nat}{b:Bool}(hl:Cv σ 0 lo l)(hh:Cv σ y hi h)(h1:l<=h)(h2:h<=cap):
  (Instr.sliceBounds b y cap (lo.map a.eval) (hi.map a.eval) none).run P w=.ok (l,h,cap) w:=by
 cases hl with
 | no=>
  cases hh with
  | no=>simp[Instr.sliceBounds]
  | val D e2 e3=>subst e3;simp[Instr.sliceBounds,(hr.opd D).i_inv,Fv e2 h2]
 | val D e2 e3=>
  subst e3
  cases hh with
  | no=>simp[Instr.sliceBounds,(hr.opd D).i_inv,Fv e2 h1]
  | val f1 f2 f3=>subst f3;simp[Instr.sliceBounds,(hr.opd D).i_inv,Fv e2 h1,(hr.opd f1).i_inv,Fv f2 h2]
def Qf.sliceD {T d l h e z by_:Nat}{x:Operand}{lo hi:O_ Operand}{rows us:L_ (L_ V)}(ho:o.op=.slice T x lo hi none)(hd:o.dst=some d)(hn:B_ d C)(hx:σ.opd x=some (.sl z rows))
  (hT:Yo P T=some (e,z,by_)) (hl:Cv σ 0 lo l) (hh:Cv σ rows.length hi h) (h1:l<=h) (h2:h<=rows.length) (hu:(rows.drop l).take (h-l)=us):Qf P C o σ (σ.put d (.sl z us)):=by
 refine Qf.same hd hn λφ a w hr=>?_
 subst hu
 obtain⟨hu,i,D,hiz,_⟩:=KT hT
 rcases(hr.opd hx).sl_inv with⟨a0,cap,he,rfl⟩|⟨b,off,cap,he,hI,hcap,hok,c,hc,y⟩
 ·have h0:h=0:=by simpa using h2
  subst h0
  have l0:l=0:=by omega
  subst l0
  refine⟨.slice (if cap=0 then a0 else a0.map (·.add (0*i.size))) 0 cap,?_,.dat (.sl0 _ _ _)⟩
  have hh':Cv σ 0 hi 0:=hh
  simp[execOp,ho,he,Instr.sliceAt,Instr.slice,run_underlying hu,HJ hr hl hh' h1 (by simp:0<=cap),sizeOf,typeInfo,D]
 refine⟨.slice (if cap=l then some ⟨b,off,none⟩else some ((⟨b,off,none⟩:Addr).add (l*i.size))) (h-l) (cap-l),?_,.dat ?_⟩
 ·simp only[execOp,ho,he,Instr.sliceAt,Instr.slice,run_underlying hu,Rq,HJ hr hl hh h1 (by omega:h<=cap),sizeOf,typeInfo,D,Xf,Xx,run_program,Xl,DJ,Rq]
 by_cases hlh:h-l=0
 ·rw[hlh];simp only[List.take_zero];exact .sl0 _ _ _
 have hcl:cap≠l:=by omega
 rw[if_neg hcl,hiz,Addr.add_lit]
 refine .sl b (off+l*z) (h-l) (cap-l) z _ (λj=>c (l*z+j)) hI (by simp;omega) (by omega) (λr hr'=>hok r (OC (Ai hr'))) (λj hj=>?_) (λk r hk j v hj=>?_)
 ·have hle:l*z+(h-l)*z<=rows.length*z:=by rw[<-Jf];exact JA _ (by omega)
  have:=hc (l*z+j) (by omega)
  rw[Mw];exact this
 rw[Jy]at hk
 split at hk
 ·rw[Gf]at hk
  have:=y (l+k) r hk j v hj
  rw[Jf]at this
  rw[<-Mw];exact this
 cases hk
def RR.shrink (h:RR C φ σ a w){b z:Nat}{rs:L_ (L_ V)}(hb:look σ.hp b=some (.arr z rs))(n:Nat):RR C φ (σ.set b (.arr z (rs.take n))) a w:=by
 refine⟨h.os,h.tape,h.output,h.size,h.kept,h.inj,λo B hB=>?_,h.lt,h.new,h.stay.set hb,h.tmps,h.defers,h.frame,λo ob y=>?_⟩
 ·by_cases e:o=b
  ·subst e;exact⟨_,σ.look_set_same _ _⟩
  obtain⟨ob,D⟩:=h.dom o B hB;exact⟨ob,by rw[σ.look_set_other _ (Ne.symm e)];exact D⟩
 by_cases e:o=b
 ·subst e;rw[σ.look_set_same]at y;cases y
  rcases h.heap o _ hb with⟨B,hB,D,h2,h3,cs,E,h4,h5,h6⟩|⟨D,h2⟩
  ·refine .inl ⟨B,hB,D,by simp;omega,λr hr=>h3 r (Ai hr),cs,E,h4,h5,λi r hi=>?_⟩
   rw[Jy]at hi
   split at hi
   ·exact h6 i r hi
   cases hi
  exact .inr ⟨D,by show rs.take n=[];rw[show rs=[]from h2,List.take_nil]⟩
 rw[σ.look_set_other _ (Ne.symm e)]at y;exact h.heap o ob y
def Qf.sliceO {T d b n h e z by_:Nat}{x:Operand}{lo hi:O_ Operand}{rs us:L_ (L_ V)}(ho:o.op=.slice T x lo hi none)(hd:o.dst=some d)(hn:B_ d C)(hx:σ.opd x=some (.own b n))
  (hb:look σ.hp b=some (.arr z rs)) (hT:Yo P T=some (e,z,by_)) (hl:Cv σ 0 lo 0) (hh:Cv σ n hi h) (h2:h<=n) (hu:rs.take h=us):Qf P C o σ ((σ.set b (.arr z us)).put d (.own b h)):=by
 refine Qf.val λφ a w D=>?_
 subst hu
 obtain⟨hu,i,y,hiz,_⟩:=KT hT
 have hs:=D.shrink hb h
 rcases(D.opd hx).own_inv with⟨he,rfl⟩|⟨B,hB,hcap,he⟩
 ·have h0:h=0:=by omega
  subst h0
  refine⟨.slice none 0 0,w,φ,?_,by rw[hd];exact hs.put (XP hn) (.own0 b)⟩
  simp[execOp,ho,he,Instr.sliceAt,Instr.slice,run_underlying hu,HJ D hl hh (by omega) (by omega:0<=0),sizeOf,typeInfo,y]
 refine⟨.slice (some ⟨B.b,B.off,none⟩) h B.cap,w,φ,?_,by rw[hd];exact hs.put (XP hn) (.own b h B hB (by omega))⟩
 simp only[execOp,ho,he,Instr.sliceAt,Instr.slice,run_underlying hu,HJ D hl hh (by omega) (by omega:h<=B.cap),sizeOf,typeInfo,y,Xf,Xx,run_program,Xl,DJ,Rq,Cr,Addr.add_lit,OD,ite_self,Nat.sub_zero]
def Qcq (P:Program)(T:TypeId):Bool:=match P.underlying T with
 | some (.interface _)=>false
 | some _=>true
 | none=>false
def Qgp {T:TypeId}(h:Qcq P T=true):∃D,P.underlying T=some D/\∀m,D≠.interface m:=by
 unfold Qcq at h
 split at h
 ·cases h
 ·rename_i D y he;exact⟨D,he,λm e=>y m (by rw[e])⟩
 cases h
def Qf.makeInterface {T d:Nat}{x:Operand}{v:V}(ho:o.op=.makeInterface T x)(hd:o.dst=some d)(hn:B_ d C)(hx:σ.opd x=some v)(hT:Qcq P T=true):Qf P C o σ (σ.put d (.ifc T v)):=by
 refine Qf.same hd hn λφ a w hr=>⟨.iface T (a.eval x),?_,.ifc T _ _ (hr.opd hx)⟩
 obtain⟨D,y,h⟩:=Qgp hT
 have:(Instr.makeInterface T (a.eval x)).run P w=.ok (.iface T (a.eval x)) w:=by
  simp only[Instr.makeInterface,Xf,run_underlying y,Xl]
  cases D<;>first | rfl | exact absurd rfl (h _)
 simp only[execOp,ho,Xf,this,Xl,Xx]
def Qf.typeAssert {T S d:Nat}{x:Operand}{v:V}(ho:o.op=.typeAssert x S T false)(hd:o.dst=some d)(hn:B_ d C)(hx:σ.opd x=some (.ifc T v))(hT:Qcq P T=true):Qf P C o σ (σ.put d v):=by
 refine Qf.same hd hn λφ a w hr=>?_
 obtain⟨y,he,hy⟩:=(hr.opd hx).ifc_inv
 refine⟨y,?_,hy⟩
 obtain⟨D,hD,h⟩:=Qgp hT
 have:(Instr.typeAssert (.iface T y) S T false).run P w=.ok y w:=by
  simp only[Instr.typeAssert,Xf,run_underlying hD,Xl]
  cases D<;>first | simp | exact absurd rfl (h _)
 simp only[execOp,ho,he,Xf,this,Xl,Xx]
def Qf.nilCheckL {d b i k:Nat}{x:Operand}(ho:o.op=.nilCheck x)(D:o.dst=some d)(hn:B_ d C)(y:σ.opd x=some (.loc b i k)):Qf P C o σ (σ.put d (.loc b i k)):=by
 refine Qf.same D hn λφ a w h=>⟨a.eval x,?_,h.opd y⟩
 obtain⟨B,hB,he⟩:=(h.opd y).loc_inv
 simp[execOp,ho,he]
def Qf.makeFunc {d:Nat}{fn:Fn}{first h:Array Operand}{vs us:L_ V}(ho:o.op=.makeFunc fn first h)(hd:o.dst=some d)(hn:B_ d C)(h1:σ.opsV first.toList=some vs)(h2:σ.opsV h.toList=some us):
  Qf P C o σ (σ.put d (.clo fn vs us)):=by
 refine Qf.same hd hn λφ a w hr=>?_
 obtain⟨a1,a2⟩:=hr.opsV _ _ h1
 obtain⟨b1,b2⟩:=hr.opsV _ _ h2
 refine⟨.func fn (first.map a.eval) (h.map a.eval),by simp[execOp,ho,Instr.makeFunc],.clo fn _ _ _ _ (by simpa using a1) (by simpa using b1) (λj x v D hv=>?_) λj x v D hv=>?_⟩
 ·rw[Array.getElem?_map,XZ]at D
  obtain⟨y,hy,rfl⟩:=D
  exact a2 j y v (by simpa using hy) hv
 rw[Array.getElem?_map,XZ]at D
 obtain⟨y,hy,rfl⟩:=D
 exact b2 j y v (by simpa using hy) hv
end
def ZP {κ:Type}(e:κ->V)(l:L_ (κ×L_ (L_ V))):L_ (V×L_ (L_ V)):=l.map λp=>(e p.1,p.2)
section
variable {P:Program}{K:TypeId}{κ:Type}[DecidableEq κ]{e:κ->V}{val:κ->Value}{I:Nat->Prop}{w:World}{B:Xa}{l:L_ (κ×L_ (L_ V))}{z:Nat}{out:O_ V}
def Qeq (D:∀a b,e a=e b->a=b):((ZP e l).map Prod.fst).Nodup↔(l.map Prod.fst).Nodup:=by
 have:(ZP e l).map Prod.fst=(l.map Prod.fst).map e:=by simp[ZP]
 rw[this]
 constructor
 ·intro h;exact(PU.1 h).imp λy e'=>y (by rw[e'])
 intro h;exact PU.2 (h.imp λy e'=>y (D _ _ e'))
def Qhk (I:Nat->Prop)(w:World)(z:Nat)(e:κ->V)(val:κ->Value)(out:O_ V)(l:L_ (κ×L_ (L_ V)))(x:MapEntry)(E:O_ Xa):Prop:=
 ∃q∈l,x.key=val q.1/\((∃F,E=some F/\F.more=[]/\out≠some (e q.1)/\Yn I w F z q.2/\x.val=.slice (some ⟨F.b,F.off,none⟩) q.2.length F.cap)\/(E=none/\out=some (e q.1)))
def Gu.find (hk:Eu P K e val){D:TypeDesc}(hD:P.underlying K=some D)(h:Gu I w B z (ZP e l) out)(k:κ):∃(es:Array MapEntry) (clock:Nat) (bs:L_ (O_ Xa)),w.heap[B.b]? = some (.map es clock)/\MapKept.Stamped es clock/\(l.map Prod.fst).Nodup/\
  es.size=l.length/\bs.length=l.length/\B.more=bs.filterMap (Option.map Xa.b)/\(B.b::B.more).Nodup/\MapKept.IsKey D (val k)/\
  (∀(i:Nat) x E,es[i]? = some x->bs[i]? = some E->Qhk I w z e val out l x E)/\(∀q∈l,∃(i:Nat) (x:MapEntry),es[i]? = some x/\x.key=val q.1)/\
  ((Xb l k=none/\Instr.findNow D (val k) es.toList 0=some none/\∀x∈es.toList,x.key≠val k)\/
   ∃j x E rs,Xb l k=some rs/\Instr.findNow D (val k) es.toList 0=some (some (j,x.val))/\es[j]? = some x/\bs[j]? = some E/\x.key=val k/\∀i y,es[i]? = some y->y.key=val k->i=j):=by
 obtain⟨es,clock,h1,h2,h3,h4,bs,h5,h6,h7,h8,h9⟩:=h
 obtain⟨D',hD',hK⟩:=hk.d
 rw[hD]at hD';cases hD'
 have hn:=(Qeq hk.einj).1 h3
 have hl:(ZP e l).length=l.length:=by simp[ZP]
 have hrow:∀(i:Nat) x E,es[i]? = some x->bs[i]? = some E->Qhk I w z e val out l x E:=λi x E hi hE=>by
  obtain⟨p,hp,a1,a2⟩:=h8 i x E hi hE
  obtain⟨q,hq,rfl⟩:=Yl.1 hp
  exact⟨q,hq,hk.inv _ _ _ _ a1,a2⟩
 have hbs:∀i x,es[i]? = some x->∃E,bs[i]? = some E:=λi x hi=>by
  have hlt:i<bs.length:=by rw[h5,<-h4];exact(Ud.1 hi).1
  exact⟨_,QR hlt⟩
 have hks:∀x∈es.toList,MapKept.IsKey D x.key:=λx hx=>by
  obtain⟨i,hi⟩:=Mv.1 hx
  rw[TX]at hi
  obtain⟨E,hE⟩:=hbs i x hi
  obtain⟨q,_,e1,_⟩:=hrow i x E hi hE
  rw[e1];exact hK _
 refine⟨es,clock,bs,h1,h2,hn,by rw[h4,hl],by rw[h5,hl],h6,h7,hK k,hrow,λq hq=>?_,?_⟩
 ·obtain⟨i,x,hi,a1⟩:=h9 _ (Yl.2 ⟨q,hq,rfl⟩)
  exact⟨i,x,hi,hk.inv _ _ _ _ a1⟩
 rcases MapKept.findNow_spec (hK k) es.toList 0 hks with⟨g1,g2⟩|⟨j,x,g1,g2,g3⟩
 ·refine .inl ⟨?_,g1,g2⟩
  cases hg:Xb l k with
  | none=>rfl
  | some rs=>
   obtain⟨i,x,hi,a1⟩:=h9 (e k,rs) (Yl.2 ⟨(k,rs),ZO hg,rfl⟩)
   exact absurd (hk.inv _ _ _ _ a1) (g2 x (Mv.2 ⟨i,by rw[TX];exact hi⟩))
 have g2':es[j]? = some x:=by simpa using g2
 obtain⟨E,hE⟩:=hbs j x g2'
 obtain⟨⟨a,rs⟩,hm,e1,_⟩:=hrow j x E g2' hE
 have:a=k:=hk.inj _ _ (by rw[<-e1,g3])
 subst this
 refine .inr ⟨j,x,E,rs,Vd hn hm,by simpa using g1,g2',hE,g3,λi y hy hyk=>?_⟩
 have i1:(es.toList.map (·.key))[i]? = some (val a):=by simp[Yb,hy,hyk]
 have i2:(es.toList.map (·.key))[j]? = some (val a):=by simp[Yb,g2',g3]
 exact(List.getElem?_inj (by simpa using (Ud.1 hy).1) h2.2.2).1 (i1.trans i2.symm)
def Gu.of (hk:Eu P K e val){es:Array MapEntry}{h:Nat}{y:L_ (O_ Xa)}(h1:w.heap[B.b]? = some (.map es h))(h2:MapKept.Stamped es h)(h3:(l.map Prod.fst).Nodup)(h4:es.size=l.length)
  (h5:y.length=l.length) (h6:B.more=y.filterMap (Option.map Xa.b)) (h7:(B.b::B.more).Nodup) (h8:∀(i:Nat) x E,es[i]? = some x->y[i]? = some E->Qhk I w z e val out l x E)
  (h9:∀q∈l,∃(i:Nat) (x:MapEntry),es[i]? = some x/\x.key=val q.1):Gu I w B z (ZP e l) out:=by
 have hl:(ZP e l).length=l.length:=by simp[ZP]
 refine⟨es,h,h1,h2,(Qeq hk.einj).2 h3,by rw[h4,hl],y,by rw[h5,hl],h6,h7,λi x E hi hE=>?_,λp hp=>?_⟩
 ·obtain⟨q,hq,D,a2⟩:=h8 i x E hi hE
  exact⟨_,Yl.2 ⟨q,hq,rfl⟩,by rw[D];exact hk.dat _ _ _,a2⟩
 obtain⟨q,hq,rfl⟩:=Yl.1 hp
 obtain⟨i,x,hi,D⟩:=h9 q hq
 exact⟨i,x,hi,by rw[D];exact hk.dat _ _ _⟩
end
section
variable {P:Program}{C:XA}{σ:St}{o:Oper}{φ:Nat->O_ Xa}{a:Act}{w:World}{ops:Array Oper}{c:Code}{Q:Exit->St->Prop}
def RR.say' (h:RR C φ σ a w){b:Nat}{ob ob':Ob}(hb:look σ.hp b=some ob)(hs:∀B,φ b=some B->JL φ (Xj C φ w) w B ob->JL φ (Xj C φ w) w B ob')(hne:¬ob.Nil):RR C φ (σ.set b ob') a w:=by
 refine⟨h.os,h.tape,h.output,h.size,h.kept,h.inj,λo B D=>?_,h.lt,h.new,h.stay.set hb,h.tmps,h.defers,h.frame,λo ob2 y=>?_⟩
 ·by_cases e:o=b
  ·subst e;exact⟨_,σ.look_set_same _ _⟩
  obtain⟨ob,h1⟩:=h.dom o B D;exact⟨ob,by rw[σ.look_set_other _ (Ne.symm e)];exact h1⟩
 by_cases e:o=b
 ·subst e;rw[σ.look_set_same]at y;cases y
  rcases h.heap o _ hb with⟨B,D,hr⟩|⟨_,h2⟩
  ·exact .inl ⟨B,D,hs B D hr⟩
  exact absurd h2 hne
 rw[σ.look_set_other _ (Ne.symm e)]at y;exact h.heap o ob2 y
def QkH (P:Program)(T:TypeId):Bool:=match P.info? T with
 | some i=>match i.zero with
  | some (.slice none 0 0)=>true
  | _=>false
 | none=>false
def QkI {T:TypeId}(h:QkH P T=true):∃i,P.info? T=some i/\i.zero=some (.slice none 0 0):=by
 unfold QkH at h
 split at h
 ·rename_i i y
  split at h
  ·rename_i D;exact⟨i,y,D⟩
  cases h
 cases h
def Cu.sl {T:TypeId}{z:Nat}(h:QkH P T=true):Cu P T (.sl z []):=let ⟨i,h1,h2⟩:=QkI h;⟨i,_,h1,h2,λ_ _=>.sl0 _ _ _⟩
def Cu.one {T:TypeId}{v:Value}(D:((P.info? T).bind (·.zero))=some v):Cu P T (UZ v):=by
 obtain⟨i,h,y⟩:=My.1 D
 exact⟨i,v,h,y,λ_ _=>Xy.const v⟩
end
section
variable {P:Program}{C:XA}{σ:St}{o:Oper}{a:Act}{w:World}
end
def QX.toData {P:Program}{f:FuncId}{us:L_ V}{z:Nat}{rows:L_ (L_ V)}(h:QX P f us [] (Qel z rows)):QX P f us [] (λv _=>v=.sl z rows):=by
 intro S φ w vals hi hG
 refine(h S φ w vals hi hG).mono ?_
 rintro e w' ⟨x,v,hs',φ',rfl,⟨o,rfl,hl⟩,ho⟩
 have hφ:∀o B,φ o≠some B:=λo B hB=>by obtain⟨ob,h⟩:=(hi.dom o B hB).2.2;cases h
 have hA:∀k,RC S φ' w w' k->RC S (λ_=>none) w w' k:=λk hk=>⟨hk.1,hk.2.1,λ_ _ h=>by cases h⟩
 refine⟨x,.sl z rows,[],λ_=>none,rfl,rfl,ho.os,ho.tape,ho.output,ho.size,ho.kept,λ_ _ _ _ _ h=>(by cases h),λ_ _ h=>(by cases h),λ_ _ _ h=>(by cases h),λ_ _ _ h=>(by cases h),⟨λ_ _ _ h=>(by cases h),λ_ _ _ _ h=>(by cases h)⟩,?_,λ_ _ h=>(by cases h)⟩
 rcases ho.heap o _ hl with⟨B,hB,hrep⟩|⟨hn,hz⟩
 ·rcases ho.rep.own_inv with⟨rfl,h0⟩|⟨B',D,hcap,rfl⟩
  ·have:rows=[]:=Mu.1 h0
   subst this;exact .dat (.sl0 _ _ _)
  rw[hB]at D;cases D
  obtain⟨rfl,hrl,hok,cs,E,h1,h2,h3⟩:=hrep
  refine .dat (.sl B.b B.off rows.length B.cap B.z rows (λj=>cs.getD (B.off+j) undef) ⟨(ho.lt o B B.b hB B.self).1,λhlt=>?_,λ_ _ h=>by cases h⟩ rfl hcap hok (λj hj=>?_) (λi r hi j v hj=>?_))
  ·obtain⟨o',B',h4,_⟩:=(ho.lt o B B.b hB B.self).2 hlt
   exact absurd h4 (hφ _ _)
  ·have hle2:rows.length*B.z<=B.cap*B.z:=JA _ hcap
   have:B.off+j<cs.size:=by omega
   simp[World.cell?,h1,Array.getD,this]
  obtain⟨y,hy,hd⟩:=h3 i r hi j v hj
  have:cs.getD (B.off+(i*B.z+j)) undef=y:=by simp[TV,hy]
  rw[this]
  exact hd.mono λk hk=>⟨hA k hk,rfl⟩
 replace hz:rows=[]:=hz;subst hz
 rcases ho.rep.own_inv with⟨rfl,h0⟩|⟨B',D,hcap,rfl⟩
 ·exact .dat (.sl0 _ _ _)
 rw[hn]at D;cases D
structure GL where
 ag:List (Nat×Bool)
 sz:List (Nat×Nat)
 fo:List (Nat×List Nat)
 sp:List (Nat×List (Nat×Nat))
 es:List (Nat×(Nat×Nat×Nat))
 ar:List (Nat×(Nat×Nat))
 zv:List (Nat×List V)
 sb:List Nat
 bo:List Nat
 cc:List Nat
 en:List Nat
def foB (P:Program)(t:Nat):L_ Nat->Nat->Bool
 | [],_=>true
 | off::r,i=>(match FV P t i with | some k=>Nat.beq k off | none=>false)&&foB P t r (i+1)
def GL.okB (P:Program)(T:GL):Bool:=
 T.ag.all (λp=>Ea P p.1==some p.2)&&T.sz.all (λp=>UC P p.1==some p.2)&&T.fo.all (λp=>foB P p.1 p.2 0)&&T.sp.all (λp=>ZG P p.1==some p.2) &&
 T.es.all (λp=>Yo P p.1==some p.2)&&T.ar.all (λp=>Td P p.1==some p.2)&&T.sb.all (Qbf P)&&T.bo.all (Qem P)&&T.cc.all (Qcq P)&&T.en.all (Vb P)
structure WT (P:Program) (T:GL):Prop where
 ag:∀{t b},look T.ag t=some b->Ea P t=some b
 sz:∀{t b},look T.sz t=some b->UC P t=some b
 fo:∀{t l},look T.fo t=some l->∀{i:Nat} {k:Nat},l[i]? = some k->FV P t i=some k
 sp:∀{t b},look T.sp t=some b->ZG P t=some b
 es:∀{t b},look T.es t=some b->Yo P t=some b
 ar:∀{t b},look T.ar t=some b->Td P t=some b
 zv:∀{t b},look T.zv t=some b->XX P t=some b
 sb:∀{t},XJ T.sb t=true->Qbf P t=true
 bo:∀{t},XJ T.bo t=true->Qem P t=true
 cc:∀{t},XJ T.cc t=true->Qcq P t=true
 en:∀{t},XJ T.en t=true->Vb P t=true
def QlL {P:Program}{t:Nat}:∀{l:L_ Nat} {j:Nat},foB P t l j=true->∀{i k:Nat},l[i]? = some k->FV P t (j+i)=some k:=by
 intro l
 induction l with
 | nil=>intro j _ i k h;simp at h
 | cons off r ih=>
  intro j h i k y
  rw[foB,QL]at h
  cases i with
  | zero=>
   simp at y;subst y
   have:=h.1
   split at this
   ·rename_i k' D;rw[OD,D,YE this]
   cases this
  | succ i=>simp at y;have:=ih h.2 y;rwa[show j+(i+1)=j+1+i by omega]
def GL.ok {P:Program}{T:GL}(h:T.okB P=true)(hz:∀p∈T.zv,XX P p.1=some p.2):WT P T:=by
 simp only[GL.okB,QL,XE,beq_iff_eq]at h
 obtain⟨⟨⟨⟨⟨⟨⟨⟨⟨D,h2⟩,h3⟩,h4⟩,h5⟩,h6⟩,h7⟩,h8⟩,h9⟩,y⟩:=h
 exact⟨λe=>D _ (Je e),λe=>h2 _ (Je e),λe i k hk=>by have:=QlL (h3 _ (Je e)) hk;rwa[Ej]at this,λe=>h4 _ (Je e),
  λe=>h5 _ (Je e),λe=>h6 _ (Je e),λe=>hz _ (Je e),λe=>h7 _ (FX.1 e),λe=>h8 _ (FX.1 e),λe=>h9 _ (FX.1 e),λe=>y _ (FX.1 e)⟩
inductive Mode where
 | d
 | n (z:Nat)
 | o (us:List (List V))
 | f (n:Nat)
 | t (b:Nat)
inductive KU where
 | no
 | row (r:List V)
 | ix
 | rows (rs:List (List V))
 | ln (n:Nat)
 | num (r:Int)
 | bd (ms:List (Option Nat))
 | c (g:Bool) (ms:List Mode) (r:V)
 | co (g:Bool) (ms:List Mode) (z:Nat) (rows:List (List V)) (m:Nat)
 | cd (g:Bool) (ms:List Mode) (z:Nat) (rows:List (List V)) (m:Nat)
 | any (v:V) (ob:Option Ob)
structure Rs where
 v:V
 ob:Option Ob
 φ:Option Prop
def Rs.holds (r:Rs):Prop:=match r.φ with
 | none=>True
 | some p=>p
def Ti (f:Operand->O_ V):L_ Operand->O_ (L_ V)
 | []=>some []
 | x::r=>match f x with
  | some v=>match Ti f r with
   | some vs=>some (v::vs)
   | none=>none
  | none=>none
def evp (f:Operand->O_ V):L_ (Nat×Operand)->O_ S_
 | []=>some []
 | (i,x)::r=>match f x with
  | some v=>match evp f r with
   | some vs=>some ((i,v)::vs)
   | none=>none
  | none=>none
def QiU (hp:Nat->O_ Ob)(g:Bool)(m:Mode)(v:V):O_ (V×O_ Prop):=match m with
 | .d=>bif v.datA then some (v,none)else none
 | .n z=>match v with
  | .lit (.slice none 0 0)=>some (.sl z [],none)
  | _=>none
 | .o us=>match v with
  | .own b n=>match hp b with
   | some (.arr z rs)=>bif g then some (.sl z us,some (n<=rs.length/\rs.take n=us))else none
   | _=>none
  | _=>none
 | .f _=>none
 | .t b=>match v with
  | .lit x=>match hp b with
   | some (.nst y u)=>bif g then some (u,some (x=y))else none
   | _=>none
  | _=>none
def Qnh (φ:O_ Prop)(p:Prop):Prop:=match φ with
 | none=>p
 | some q=>q/\p
def VQ (hp:Nat->O_ Ob)(g:Bool):L_ Mode->L_ V->O_ (L_ V×(Prop->Prop))
 | [],[]=>some ([],id)
 | m::ms,v::vs=>match QiU hp g m v with
  | some (u,φ)=>match VQ hp g ms vs with
   | some (us,k)=>some (u::us,λp=>Qnh φ (k p))
   | none=>none
  | none=>none
 | _,_=>none
def ikB : IntKind->IntKind->Bool
 | .i8,.i8 | .i16,.i16 | .i32,.i32 | .i64,.i64 | .u8,.u8 | .u16,.u16 | .u32,.u32 | .u64,.u64=>true
 | _,_=>false
def Qhl {a b:IntKind}(h:ikB a b=true):a=b:=by cases a<;>cases b<;>first | rfl | cases h
def QkJ (T:GL)(op:BinOp)(h:TypeId):V->V->O_ Rs
 | .i k m,.i y n=>bif ikB k y then match op with
  | .quo=>some ⟨.i k (k.wrap (m.tdiv n)),none,some (n≠0)⟩
  | .rem=>some ⟨.i k (m.tmod n),none,some (n≠0)⟩
  | op=>match QiP op k m n with
   | some v=>some ⟨v,none,none⟩
   | none=>none
  else none
 | .b m,.b n=>bif XJ T.bo h then match op with
  | .eql=>some ⟨.b (m==n),none,none⟩
  | .neq=>some ⟨.b (m != n),none,none⟩
  | _=>none
  else none
 | .s m,.s n=>match op with
  | .eql=>some ⟨.b (BY m n),none,none⟩
  | .neq=>some ⟨.b (!BY m n),none,none⟩
  | _=>none
 | _,_=>none
def unV (op:UnOp):V->O_ Rs
 | .b t=>match op with
  | .not=>some ⟨.b (!t),none,none⟩
  | _=>none
 | .i k m=>match op with
  | .neg=>some ⟨.i k (k.wrap (0-m)),none,none⟩
  | _=>none
 | _=>none
def Qbl (T:GL)(y:TypeId)(h:L_ V)(off:Nat)(φ:O_ Prop):O_ Rs:=
 match look T.ag y with
 | some true=>match look T.sz y with
  | some n=>bif Nat.ble (off+n) h.length then some ⟨.agg ((h.drop off).take n),none,φ⟩else none
  | none=>none
 | some false=>match h[off]? with
  | some v=>some ⟨v,none,φ⟩
  | none=>none
 | none=>none
def QiV (T:GL)(h:KU)(y:TypeId)(hp:Nat->O_ Ob):V->O_ Rs
 | .loc b i off=>match hp b with
  | some (.var D)=>match i with
   | 0=>Qbl T y D off none
   | _=>none
  | some (.arr _ rs)=>match h with
   | .row r=>Qbl T y r off (some (rs[i]? = some r))
   | _=>none
  | _=>none
 | .ro D=>Qbl T y D 0 none
 | _=>none
def Qhm (T:GL)(h:TypeId)(i:Nat):V->O_ Rs
 | .loc b k off=>match look T.fo h with
  | some l=>match l[i]? with
   | some n=>some ⟨.loc b k (off+n),none,none⟩
   | none=>none
  | none=>none
 | .ro y=>match look T.fo h with
  | some l=>match l[i]? with
   | some n=>some ⟨.ro (y.drop n),none,none⟩
   | none=>none
  | none=>none
 | _=>none
def Qhn (T:GL)(h:KU)(y:TypeId)(hp:Nat->O_ Ob):V->V->O_ Rs
 | .sl z rows,.i _ j=>match look T.es y with
  | some p=>match h with
   | .row r=>bif Nat.beq z p.2.1 then some ⟨.ro r,none,some (0<=j/\rows[j.toNat]? = some r)⟩else none
   | _=>none
  | none=>none
 | .own b n,.i _ j=>match look T.es y with
  | some p=>match hp b with
   | some (.arr z _)=>bif Nat.beq z p.2.1 then some ⟨.loc b j.toNat 0,none,some (0<=j/\j<(n:Int))⟩else none
   | _=>none
  | none=>none
 | .loc b i m,.i _ j=>match look T.ar y with
  | some p=>bif decide (0<=j)&&decide (j<(p.1:Int))then some ⟨.loc b i (m+j.toNat*p.2),none,none⟩else none
  | none=>none
 | .ro D,.i _ j=>match look T.ar y with
  | some p=>bif decide (0<=j)&&decide (j<(p.1:Int))then some ⟨.ro (D.drop (j.toNat*p.2)),none,none⟩else none
  | none=>none
 | _,_=>none
def QkK (T:GL)(h:KU)(y:TypeId):V->O_ Rs
 | .sl _ rows=>bif (look T.es y).isSome then match h with
  | .ln m=>some ⟨.i .i64 m,none,some (rows.length=m)⟩
  | _=>some ⟨.i .i64 rows.length,none,none⟩
  else none
 | .own _ n=>bif (look T.es y).isSome then some ⟨.i .i64 n,none,none⟩else none
 | .lit (.slice none 0 0)=>bif (look T.es y).isSome then some ⟨.i .i64 0,none,none⟩else none
 | .s s=>bif XJ T.sb y then some ⟨.i .i64 s.size,none,none⟩else none
 | _=>none
def mkV (T:GL)(h:KU)(y d:TypeId):V->V->O_ Rs
 | .i _ l,.i _ c=>match look T.es y with
  | some p=>match look T.zv p.1 with
   | some zs=>match h with
    | .rows rs=>bif Nat.beq zs.length p.2.1&&!(Nat.beq p.2.1 0)&&zs.all V.one&&Nat.ble p.2.2 32768 then
     some ⟨.own d l.toNat,some (.arr p.2.1 rs),some ((decide (0<=l)&&decide (l<=c)&&decide (c<=4294967296))=true/\List.replicate l.toNat zs=rs)⟩else none
    | _=>none
   | none=>none
  | none=>none
 | _,_=>none
def mmV (mx:Bool):V->V->O_ Rs
 | .i k m,.i h n=>bif ikB k h then bif mx then some ⟨.i k (Vm.max2 m n),none,none⟩else some ⟨.i k (Vm.min2 m n),none,none⟩else none
 | _,_=>none
def Qhc (P:Program)(C:XA)(T:GL)(h:KU)(hp:Nat->O_ Ob)(d fn:Nat)(vs:L_ V):O_ Rs:=
 bif XJ T.en fn then match h with
 | .c g ms r=>match VQ hp g ms vs with
  | some (us,k)=>bif (!g&&r.datA)||r.scaA then some ⟨r,none,some (k (QX P fn us [] (Gives r [])))⟩else none
  | none=>none
 | .co g ms z rows m=>match VQ hp g ms vs with
  | some (us,k)=>some ⟨.own d m,some (.arr z rows),some (k (QX P fn us [] (Gives (.own 600 m) [(600,.arr z rows)])/\rows.length=m/\(g=false\/∀r∈rows,∀v∈r,v.sca=true)))⟩
  | none=>none
 | .cd g ms z rows m=>match VQ hp g ms vs with
  | some (us,k)=>bif !g then some ⟨.sl z rows,none,some (k (QX P fn us [] (Gives (.own 600 m) [(600,.arr z rows)])/\rows.length=m))⟩else none
  | none=>none
 | _=>none
 else none
def ev1 (P:Program)(C:XA)(T:GL)(h:KU)(o:Oper)(d:Nat)(f:Operand->O_ V)(hp:Nat->O_ Ob):O_ Rs:=
 match h with
 | .any v ob=>some ⟨v,ob,some (∀σ:St,(∀x u,f x=some u->σ.opd x=some u)->(∀b u,hp b=some u->look σ.hp b=some u)->(ob.isSome=true->look σ.hp d=none)->Qf P C o σ (σ.addF ⟨d,v,ob⟩))⟩
 | h=>match o.op with
  | .move x=>match f x with
   | some v=>some ⟨v,none,none⟩
   | none=>none
  | .assign x=>match f x with
   | some v=>some ⟨v,none,none⟩
   | none=>none
  | .pick c a b=>match f c with
   | some (.b true)=>match f a with
    | some v=>some ⟨v,none,none⟩
    | none=>none
   | some (.b false)=>match f b with
    | some v=>some ⟨v,none,none⟩
    | none=>none
   | _=>none
  | .binOp op D x y _=>match f x with
   | some v=>match f y with
    | some u=>QkJ T op D v u
    | none=>none
   | none=>none
  | .unOp op _ x=>match f x with
   | some v=>unV op v
   | none=>none
  | .alloc D=>match look T.zv D with
   | some zs=>some ⟨.loc d 0 0,some (.var zs),none⟩
   | none=>none
  | .box _ x=>match f x with
   | some (.agg cs)=>some ⟨.loc d 0 0,some (.var cs),none⟩
   | some v=>bif v.one then some ⟨.loc d 0 0,some (.var [v]),none⟩else none
   | none=>none
  | .load D x=>match f x with
   | some v=>QiV T h D hp v
   | none=>none
  | .fieldAddr D x i=>match f x with
   | some v=>Qhm T D i v
   | none=>none
  | .indexAddr D x y=>match f x with
   | some v=>match f y with
    | some u=>Qhn T h D hp v u
    | none=>none
   | none=>none
  | .build D parts=>match evp f parts.toList with
   | some qs=>match look T.zv D with
    | some zs=>bif qs.all (λq=>q.2.isV)then match look T.sp D with
      | some pl=>match Es (pl[·]?) zs qs with
       | some vs=>some ⟨.agg vs,none,none⟩
       | none=>none
      | none=>match look T.ar D with
       | some p=>match Es (λi=>some (i*p.2,p.2)) zs qs with
        | some vs=>some ⟨.agg vs,none,none⟩
        | none=>none
       | none=>none
     else none
    | none=>none
   | none=>none
  | .buildSlice D n parts=>match evp f parts.toList with
   | some qs=>match look T.es D with
    | some p=>match look T.zv p.1 with
     | some zs=>bif qs.all (λq=>q.2.isV)&&Nat.beq zs.length p.2.1&&!(Nat.beq p.2.1 0)&&Nat.ble (n*p.2.1) 16777216 then
      match Es (λi=>some (i*p.2.1,p.2.1)) ((List.range (n*p.2.1)).map λk=>zs.getD (k % p.2.1) .J) qs with
      | some vs=>match h with
       | .bd ms=>bif (Dg ms vs).all V.one&&(Dg ms vs).all V.dat then some ⟨.sl p.2.1 (Cs p.2.1 n (Dg ms vs)),none,none⟩else none
       | _=>bif vs.all V.one&&vs.all V.dat then some ⟨.own d n,some (.arr p.2.1 (Cs p.2.1 n vs)),none⟩else none
      | none=>none
      else none
     | none=>none
    | none=>none
   | none=>none
  | .extract x i=>match f x with
   | some (.tup vs)=>match vs[i]? with
    | some v=>some ⟨v,none,none⟩
    | none=>none
   | _=>none
  | .nilCheck x=>match f x with
   | some (.loc b i k)=>some ⟨.loc b i k,none,none⟩
   | _=>none
  | .makeInterface D x=>match f x with
   | some v=>bif XJ T.cc D then some ⟨.ifc D v,none,none⟩else none
   | none=>none
  | .typeAssert x _ D false=>match f x with
   | some (.ifc t v)=>bif Nat.beq t D&&XJ T.cc D then some ⟨v,none,none⟩else none
   | _=>none
  | .makeFunc fn first caps=>match Ti f first.toList with
   | some vs=>match Ti f caps.toList with
    | some us=>some ⟨.clo fn vs us,none,none⟩
    | none=>none
   | none=>none
  | .index D x y=>match f x with
   | some (.s s)=>match f y with
    | some (.i _ j)=>match h with
     | .num r=>bif XJ T.sb D then some ⟨.i .u8 r,none,some (sidx s j=some r)⟩else none
     | _=>none
    | _=>none
   | _=>none
  | .makeSlice D x y=>match f x with
   | some v=>match f y with
    | some u=>mkV T h D d v u
    | none=>none
   | none=>none
  | .makeMap _ none=>some ⟨.map d,some (.map []),none⟩
  | .call c=>match c.callee with
   | .builtin .max=>match c.args.toList with
    | [x,y]=>match f x with
     | some v=>match f y with
      | some u=>mmV true v u
      | none=>none
     | none=>none
    | _=>none
   | .builtin .min=>match c.args.toList with
    | [x,y]=>match f x with
     | some v=>match f y with
      | some u=>mmV false v u
      | none=>none
     | none=>none
    | _=>none
   | .builtin .len=>match c.args.toList with
    | [x]=>match c.argTypes.toList with
     | [D]=>match f x with
      | some v=>QkK T h D v
      | none=>none
     | _=>none
    | _=>none
   | .value x=>match f x with
    | some (.clo (.func fn) fs cs)=>match Ti f c.args.toList with
     | some vs=>Qhc P C T h hp d fn (fs++(vs++cs))
     | none=>none
    | _=>none
   | _=>none
  | _=>none
section
variable {P:Program}{C:XA}{T:GL}{o:Oper}{d:Nat}{f:Operand->O_ V}{hp:Nat->O_ Ob}{σ:St}
def Uh (D:∀x u,f x=some u->σ.opd x=some u):∀{l:L_ Operand} {vs:L_ V},Ti f l=some vs->σ.opsV l=some vs:=by
 intro l
 induction l with
 | nil=>intro vs h;exact h
 | cons x l ih=>
  intro vs h
  rw[Ti]at h
  split at h
  ·rename_i v hv
   split at h
   ·rename_i us y
    cases h
    simp only[St.opsV,D _ _ hv,ih y]
   cases h
  cases h
def Ui (D:∀x u,f x=some u->σ.opd x=some u):∀{l:L_ (Nat×Operand)} {vs:S_},evp f l=some vs->σ.opds l=some vs:=by
 intro l
 induction l with
 | nil=>intro vs h;exact h
 | cons x l ih=>
  intro vs h
  obtain⟨i,x⟩:=x
  rw[evp]at h
  split at h
  ·rename_i v hv
   split at h
   ·rename_i us y
    cases h
    simp only[St.opds,D _ _ hv,ih y]
   cases h
  cases h
def XV {α:Type _}{c:Bool}{x:O_ α}{r:α}(h:(bif c then x else none)=some r):c=true/\x=some r:=by
 cases c with
 | true=>exact⟨rfl,h⟩
 | false=>cases h
def Qdc (h2:∀b u,hp b=some u->look σ.hp b=some u){g:Bool}{m:Mode}{v u:V}{φ:O_ Prop}(h:QiU hp g m v=some (u,φ))(D:(match φ with | none=>True | some p=>p)):NL σ.hp g v u:=by
 unfold QiU at h
 cases m with
 | d=>obtain⟨hd,h⟩:=XV h;cases h;exact .dat _ hd
 | n z=>
  dsimp only at h
  split at h
  ·cases h;exact .nil _
  cases h
 | o us=>
  dsimp only at h
  split at h
  ·dsimp only at h
   split at h
   ·rename_i z rs hb
    obtain⟨hg,h⟩:=XV h;subst hg;cases h;exact .own _ _ _ _ _ rfl (h2 _ _ hb) D.1 D.2
   cases h
  cases h
 | f n=>cases h
 | t b=>
  dsimp only at h
  split at h
  ·dsimp only at h
   split at h
   ·rename_i y u hb
    obtain⟨hg,h⟩:=XV h;subst hg;cases h
    have D:_=_:=D
    subst D
    exact .nst _ _ _ rfl (h2 _ _ hb)
   cases h
  cases h
def RE (h2:∀b u,hp b=some u->look σ.hp b=some u){g:Bool}:∀{ms:L_ Mode} {vs us:L_ V} {k:Prop->Prop},VQ hp g ms vs=some (us,k)->∀{p:Prop},k p->Lp σ.hp g vs us/\p:=by
 intro ms
 induction ms with
 | nil=>
  intro vs us k h p y
  cases vs with
  | nil=>cases h;exact⟨.nil,y⟩
  | cons=>cases h
 | cons m ms ih=>
  intro vs us k h p y
  cases vs with
  | nil=>cases h
  | cons v vs=>
   rw[VQ]at h
   split at h
   ·rename_i u φ hu
    split at h
    ·rename_i us' k' D
     cases h
     cases φ with
     | none=>obtain⟨a,b⟩:=ih D y;exact⟨.cons (Qdc h2 hu trivial) a,b⟩
     | some q=>obtain⟨a,b⟩:=ih D y.2;exact⟨.cons (Qdc h2 hu y.1) a,b⟩
    cases h
   cases h
def ZQ {y:TypeId}{D:L_ V}{off:Nat}{φ:O_ Prop}{r:Rs}(ok:WT P T)(h:Qbl T y D off φ=some r):
  r.ob=none/\r.φ=φ/\((Ea P y=some true/\∃n,UC P y=some n/\Nat.ble (off+n) D.length=true/\r.v=.agg ((D.drop off).take n))\/(Ea P y=some false/\D[off]? = some r.v)):=by
 unfold Qbl at h
 split at h
 ·rename_i hg
  split at h
  ·rename_i n hn
   obtain⟨h1,h⟩:=XV h
   cases h
   exact⟨rfl,rfl,.inl ⟨ok.ag hg,n,ok.sz hn,h1,rfl⟩⟩
  cases h
 ·rename_i hg
  split at h
  ·rename_i v hv
   cases h
   exact⟨rfl,rfl,.inr ⟨ok.ag hg,hv⟩⟩
  cases h
 cases h
def Yw (P:Program)(C:XA)(o:Oper)(d:Nat)(r:Rs)(σ:St):Prop:=Qf P C o σ (σ.addF ⟨d,r.v,r.ob⟩)
def Yw.put {r:Rs}(y:r.ob=none)(h:Qf P C o σ (σ.put d r.v)):Yw P C o d r σ:=by
 obtain⟨v,ob,φ⟩:=r
 cases y
 exact h
def Qii {h:KU}{Tx:TypeId}{x:Operand}{v:V}{r:Rs}(ok:WT P T)(ho:o.op=.load Tx x)(hd:o.dst=some d)(hn:B_ d C)(hx:σ.opd x=some v)
  (h2:∀b u,hp b=some u->look σ.hp b=some u) (e:QiV T h Tx hp v=some r) (hφ:r.holds):Yw P C o d r σ:=by
 unfold QiV at e
 split at e
 ·rename_i b i off
  split at e
  ·rename_i cs hb
   split at e
   ·obtain⟨e1,e2,⟨y,n,D,e5,e6⟩|⟨y,D⟩⟩:=ZQ ok e
    ·refine Yw.put e1 ?_;rw[e6];exact Qf.loadAL ho hd hn hx (h2 _ _ hb) y D e5 rfl
    exact Yw.put e1 (Qf.load1L ho hd hn hx (h2 _ _ hb) y D)
   cases e
  ·rename_i z rs hb
   split at e
   ·rename_i r'
    obtain⟨e1,e2,⟨y,n,D,e5,e6⟩|⟨y,D⟩⟩:=ZQ ok e
    ·rw[Rs.holds,e2]at hφ;refine Yw.put e1 ?_;rw[e6];exact Qf.loadAA ho hd hn hx (h2 _ _ hb) y D hφ e5 rfl
    rw[Rs.holds,e2]at hφ;exact Yw.put e1 (Qf.load1A ho hd hn hx (h2 _ _ hb) y hφ D)
   cases e
  cases e
 ·rename_i cs
  obtain⟨e1,e2,⟨y,n,D,e5,e6⟩|⟨y,D⟩⟩:=ZQ ok e
  ·refine Yw.put e1 ?_;rw[e6];rw[Ej]at e5;exact Qf.loadAR ho hd hn hx y D e5 rfl
  exact Yw.put e1 (Qf.load1R ho hd hn hx y D)
 cases e
def QiW {op:BinOp}{Tx Ty:TypeId}{x y:Operand}{v u:V}{r:Rs}(ok:WT P T)(ho:o.op=.binOp op Tx x y Ty)(h:o.dst=some d)(D:B_ d C)(hx:σ.opd x=some v)(hy:σ.opd y=some u)
  (e:QkJ T op Tx v u=some r) (hφ:r.holds):Yw P C o d r σ:=by
 unfold QkJ at e
 split at e
 ·rename_i k m k' n
  replace e:=XV e;obtain⟨e1,e⟩:=e
  have:=Qhl e1;subst this
  split at e
  ·cases e;exact Yw.put rfl (Qf.divi ho h D hx hy hφ (.inl ⟨rfl,rfl⟩))
  ·cases e;exact Yw.put rfl (Qf.divi ho h D hx hy hφ (.inr ⟨rfl,rfl⟩))
  split at e
  ·rename_i w hw;cases e;exact Yw.put rfl (Qf.bin ho h D hx hy hw)
  cases e
 ·replace e:=XV e;obtain⟨e1,e⟩:=e
  split at e
  ·cases e;exact Yw.put rfl (Qf.eqB ho h D hx hy (ok.bo e1) (.inl ⟨rfl,rfl⟩))
  ·cases e;exact Yw.put rfl (Qf.eqB ho h D hx hy (ok.bo e1) (.inr ⟨rfl,rfl⟩))
  cases e
 ·split at e
  ·cases e;exact Yw.put rfl (Qf.eqS ho h D hx hy (.inl ⟨rfl,rfl⟩))
  ·cases e;exact Yw.put rfl (Qf.eqS ho h D hx hy (.inr ⟨rfl,rfl⟩))
  cases e
 cases e
def Qho {D:TypeId}{i:Nat}{x:Operand}{v:V}{r:Rs}(ok:WT P T)(ho:o.op=.fieldAddr D x i)(hd:o.dst=some d)(hn:B_ d C)(hx:σ.opd x=some v)
  (e:Qhm T D i v=some r):Yw P C o d r σ:=by
 unfold Qhm at e
 split at e
 ·split at e
  ·rename_i l y
   split at e
   ·rename_i n h;cases e;exact Yw.put rfl (Qf.fieldL ho hd hn hx (ok.fo y h))
   cases e
  cases e
 ·split at e
  ·rename_i l y
   split at e
   ·rename_i n h;cases e;exact Yw.put rfl (Qf.fieldR ho hd hn hx (ok.fo y h) rfl)
   cases e
  cases e
 cases e
def Qhp {h:KU}{Tx:TypeId}{x y:Operand}{v u:V}{r:Rs}(ok:WT P T)(ho:o.op=.indexAddr Tx x y)(hd:o.dst=some d)(hn:B_ d C)(hx:σ.opd x=some v)(hy:σ.opd y=some u)
  (h2:∀b u,hp b=some u->look σ.hp b=some u) (e:Qhn T h Tx hp v u=some r) (hφ:r.holds):Yw P C o d r σ:=by
 unfold Qhn at e
 split at e
 ·split at e
  ·rename_i p D
   split at e
   ·replace e:=XV e;obtain⟨e1,e⟩:=e
    obtain⟨pe,pz,pb⟩:=p
    have:=Nat.eq_of_beq_eq_true e1;dsimp only at this;subst this
    cases e;exact Yw.put rfl (Qf.idxS ho hd hn hx hy (ok.es D) hφ.1 hφ.2)
   cases e
  cases e
 ·split at e
  ·rename_i p D
   split at e
   ·rename_i z rs hb
    replace e:=XV e;obtain⟨e1,e⟩:=e
    obtain⟨pe,pz,pb⟩:=p
    have:=Nat.eq_of_beq_eq_true e1;dsimp only at this;subst this
    cases e;exact Yw.put rfl (Qf.idxO ho hd hn hx hy (ok.es D) (h2 _ _ hb) hφ.1 hφ.2)
   cases e
  cases e
 ·split at e
  ·rename_i p D
   replace e:=XV e;obtain⟨e1,e⟩:=e
   rw[QL,QM,QM]at e1
   cases e;exact Yw.put rfl (Qf.idxAL ho hd hn hx hy (ok.ar D) e1.1 e1.2 rfl)
  cases e
 ·split at e
  ·rename_i p D
   replace e:=XV e;obtain⟨e1,e⟩:=e
   rw[QL,QM,QM]at e1
   cases e;exact Yw.put rfl (Qf.idxAR ho hd hn hx hy (ok.ar D) e1.1 e1.2 rfl)
  cases e
 cases e
def QiX {h:KU}{Tx:TypeId}{x:Operand}{v:V}{r:Rs}(ok:WT P T)(ho:o.op=.call { callee:=.builtin .len,args:=#[x],argTypes:=#[Tx] })(hd:o.dst=some d)(hn:B_ d C)(hx:σ.opd x=some v)
  (e:QkK T h Tx v=some r) (hφ:r.holds):Yw P C o d r σ:=by
 have es:∀{t:Nat},(look T.es t).isSome=true->∃p,Yo P t=some p:=λ{t} h=>by
  cases hl:look T.es t with
  | none=>rw[hl]at h;cases h
  | some p=>exact⟨p,ok.es hl⟩
 unfold QkK at e
 split at e
 ·replace e:=XV e;obtain⟨D,e⟩:=e;obtain⟨p,y⟩:=es D
  split at e
  ·cases e;exact Yw.put rfl (Qf.lenS' ho hd hn hx y hφ)
  cases e;exact Yw.put rfl (Qf.lenS ho hd hn hx y)
 ·replace e:=XV e;obtain⟨D,e⟩:=e;obtain⟨p,y⟩:=es D;cases e;exact Yw.put rfl (Qf.lenO ho hd hn hx y)
 ·replace e:=XV e;obtain⟨D,e⟩:=e;obtain⟨p,y⟩:=es D;cases e;exact Yw.put rfl (Qf.lenN ho hd hn hx y)
 ·replace e:=XV e;obtain⟨D,e⟩:=e;cases e;exact Yw.put rfl (Qf.lenStr ho hd hn hx (ok.sb D))
 cases e
def Qgq {mx:Bool}{x y:Operand}{v u:V}{ts:Array TypeId}{r:Rs}(ho:o.op=.call { callee:=.builtin (if mx then .max else .min),args:=#[x,y],argTypes:=ts })(h:o.dst=some d)(D:B_ d C)(hx:σ.opd x=some v)(hy:σ.opd y=some u)
  (e:mmV mx v u=some r):Yw P C o d r σ:=by
 unfold mmV at e
 split at e
 ·replace e:=XV e;obtain⟨e1,e⟩:=e
  have:=Qhl e1;subst this
  cases mx with
  | true=>cases e;exact Yw.put rfl (Qf.max2 ho h D hx hy)
  | false=>cases e;exact Yw.put rfl (Qf.min2 ho h D hx hy)
 cases e
def QjK {h:KU}{Tx:TypeId}{x y:Operand}{v u:V}{r:Rs}(ok:WT P T)(ho:o.op=.makeSlice Tx x y)(hd:o.dst=some d)(hn:B_ d C)(hx:σ.opd x=some v)(hy:σ.opd y=some u)
  (e:mkV T h Tx d v u=some r) (hφ:r.holds) (hf:r.ob.isSome=true->look σ.hp d=none):Yw P C o d r σ:=by
 unfold mkV at e
 split at e
 ·split at e
  ·rename_i p D
   split at e
   ·rename_i zs hz
    split at e
    ·replace e:=XV e;obtain⟨e1,e⟩:=e
     simp only[QL,Wy]at e1
     obtain⟨⟨⟨a1,a2⟩,a3⟩,a4⟩:=e1
     cases e
     exact Qf.make' ho hd hn hx hy (ok.es D) (ok.zv hz) (YE a1) (λh0=>by rw[h0]at a2;cases a2) a3 hφ.1 a4 (hf rfl) hφ.2
    cases e
   cases e
  cases e
 cases e
def Gives.own {fn:Nat}{us:L_ V}{z m:Nat}{rows:L_ (L_ V)}(h:QX P fn us [] (Gives (.own 600 m) [(600,.arr z rows)]))(y:rows.length=m):QX P fn us [] (Qel z rows):=
 h.mono λv D ⟨a,b⟩=>⟨600,by rw[a,y],b _ _ rfl⟩
def JG.toData {P:Program}{β:Nat}{f:FuncId}{us:L_ V}{m z:Nat}{rows:L_ (L_ V)}(h:JG β P f us [] (Gives (.own 600 m) [(600,.arr z rows)]))(hm:rows.length=m):JG β P f us [] (Gives (.sln β z rows) []):=by
 subst hm
 intro S φ w vals hβ hi hG
 refine(h S φ w vals hβ hi hG).mono ?_
 rintro e w' ⟨x,v,hs',φ',rfl,⟨rfl,hl⟩,ho⟩
 have hl:=hl 600 _ rfl
 have hφ:∀o B,φ o≠some B:=λo B hB=>by obtain⟨ob,h⟩:=(hi.dom o B hB).2.2;cases h
 have hA:∀k,RC S φ' w w' k->RC S (λ_=>none) w w' k:=λk hk=>⟨hk.1,hk.2.1,λ_ _ h=>by cases h⟩
 refine⟨x,.sln β z rows,[],λ_=>none,rfl,⟨rfl,λ_ _ h=>by cases h⟩,ho.os,ho.tape,ho.output,ho.size,ho.kept,λ_ _ _ _ _ h=>(by cases h),λ_ _ h=>(by cases h),λ_ _ _ h=>(by cases h),λ_ _ _ h=>(by cases h),⟨λ_ _ _ h=>(by cases h),λ_ _ _ _ h=>(by cases h)⟩,?_,λ_ _ h=>(by cases h)⟩
 rcases ho.heap 600 _ hl with⟨B,hB,hrep⟩|⟨hn,hz⟩
 ·rcases ho.rep.own_inv with⟨rfl,h0⟩|⟨B',D,hcap,rfl⟩
  ·have:rows=[]:=Mu.1 h0
   subst this;exact .dat (.sln0 _ _ _ _)
  rw[hB]at D;cases D
  obtain⟨rfl,hrl,hok,cs,E,h1,h2,h3⟩:=hrep
  have hnew:=ho.new _ B B.b hB B.self (by decide)
  have hle2:rows.length*B.z<=B.cap*B.z:=JA _ hcap
  refine .dat (.sln β B.b B.off rows.length B.cap B.z rows cs E (Kj hβ hnew) ⟨(ho.lt _ B B.b hB B.self).1,λhlt=>by omega,λ_ _ h=>by cases h⟩ rfl hcap hok h1 (by omega) (λi r hi j v hj=>?_))
  obtain⟨y,hy,hd⟩:=h3 i r hi j v hj
  have:cs.getD (B.off+(i*B.z+j)) undef=y:=by simp[TV,hy]
  rw[this]
  exact hd.mono λk hk=>⟨hA k hk,rfl⟩
 replace hz:rows=[]:=hz;subst hz
 rcases ho.rep.own_inv with⟨rfl,h0⟩|⟨B',D,hcap,rfl⟩
 ·exact .dat (.sln0 _ _ _ _)
 rw[hn]at D;cases D
def Qij {h:KU}{fn:Nat}{vs:L_ V}{r:Rs}(ok:WT P T)(hE:YU P C o σ fn vs)(hd:o.dst=some d)(hn:B_ d C)(y:C.pg P)
  (h2:∀b u,hp b=some u->look σ.hp b=some u) (e:Qhc P C T h hp d fn vs=some r) (hφ:r.holds) (hf:r.ob.isSome=true->look σ.hp d=none):Yw P C o d r σ:=by
 unfold Qhc at e
 replace e:=XV e;obtain⟨e1,e⟩:=e
 split at e
 ·split at e
  ·rename_i us k hv
   replace e:=XV e;obtain⟨e2,e⟩:=e
   cases e
   obtain⟨D,a2⟩:=RE h2 hv hφ
   refine Yw.put rfl (Qf.callE hE hd hn y D (a2.mono λ_ _ h=>h.1) ?_)
   rw[KR,QL]at e2
   exact e2.imp (λh=>⟨by simpa using h.1,h.2⟩) id
  cases e
 ·split at e
  ·rename_i us k hv
   cases e
   obtain⟨D,a2,a3,a4⟩:=RE h2 hv hφ
   exact Qf.callOE hE hd hn y D (Gives.own a2 a3) a4 (hf rfl) a3
  cases e
 ·split at e
  ·rename_i us k hv
   replace e:=XV e;obtain⟨e2,e⟩:=e
   cases e
   obtain⟨D,a2,a3⟩:=RE h2 hv hφ
   exact Yw.put rfl (Qf.callE hE hd hn y D (Gives.own a2 a3).toData (.inl ⟨by simpa using e2,rfl⟩))
  cases e
 cases e
def Qbm {h:KU}{r:Rs}(ok:WT P T)(hd:o.dst=some d)(hn:B_ d C)(hpg:C.pg P)(h1:∀x u,f x=some u->σ.opd x=some u)(h2:∀b u,hp b=some u->look σ.hp b=some u)
  (e:ev1 P C T h o d f hp=some r) (hφ:r.holds) (hf:r.ob.isSome=true->look σ.hp d=none):Yw P C o d r σ:=by
 unfold ev1 at e
 split at e
 ·cases e;exact hφ σ h1 h2 hf
 split at e
 ·rename_i x D
  split at e
  ·rename_i v hv;cases e;exact Yw.put rfl (Qf.move D hd hn (h1 _ _ hv))
  cases e
 ·rename_i x D
  split at e
  ·rename_i v hv;cases e;exact Yw.put rfl (Qf.assign D hd hn (h1 _ _ hv))
  cases e
 ·rename_i c a b D
  split at e
  ·rename_i hc
   split at e
   ·rename_i v hv;cases e;exact Yw.put rfl (Qf.pickT D hd hn (h1 _ _ hc) rfl (h1 _ _ hv))
   cases e
  ·rename_i hc
   split at e
   ·rename_i v hv;cases e;exact Yw.put rfl (Qf.pickF D hd hn (h1 _ _ hc) rfl (h1 _ _ hv))
   cases e
  cases e
 ·rename_i op Tx x y Ty D
  split at e
  ·rename_i v hv
   split at e
   ·rename_i u hu;exact QiW ok D hd hn (h1 _ _ hv) (h1 _ _ hu) e hφ
   cases e
  cases e
 ·rename_i op Tx x D
  split at e
  ·rename_i v hv
   unfold unV at e
   split at e
   ·split at e
    ·cases e;exact Yw.put rfl (Qf.not D hd hn (h1 _ _ hv))
    cases e
   ·split at e
    ·cases e;exact Yw.put rfl (Qf.neg D hd hn (h1 _ _ hv))
    cases e
   cases e
  cases e
 ·rename_i Tx D
  split at e
  ·rename_i zs hz;cases e;exact Qf.alloc D hd hn (ok.zv hz) (hf rfl)
  cases e
 ·rename_i Tx x D
  split at e
  ·rename_i cs hv;cases e;exact Qf.box D hd hn (h1 _ _ hv) (.inr ⟨_,rfl⟩) (hf rfl)
  ·rename_i v hne hv
   replace e:=XV e;obtain⟨e1,e⟩:=e
   cases e
   have hc:v.cells=[v]:=by cases v<;>first | rfl | exact absurd rfl (hne _)
   have:=Qf.box (P:=P) D hd hn (h1 _ _ hv) (.inl e1) (hf rfl)
   rw[hc]at this;exact this
  cases e
 ·rename_i Tx x D
  split at e
  ·rename_i v hv;exact Qii ok D hd hn (h1 _ _ hv) h2 e hφ
  cases e
 ·rename_i Tx x i D
  split at e
  ·rename_i v hv;exact Qho ok D hd hn (h1 _ _ hv) e
  cases e
 ·rename_i Tx x y D
  split at e
  ·rename_i v hv
   split at e
   ·rename_i u hu;exact Qhp ok D hd hn (h1 _ _ hv) (h1 _ _ hu) h2 e hφ
   cases e
  cases e
 ·rename_i Tx parts D
  split at e
  ·rename_i qs hq
   split at e
   ·rename_i zs hz
    replace e:=XV e;obtain⟨e1,e⟩:=e
    split at e
    ·rename_i pl hpl
     split at e
     ·rename_i vs hvs;cases e;exact Yw.put rfl (Qf.build D hd hn (ok.zv hz) (ok.sp hpl) (Ui h1 hq) e1 hvs)
     cases e
    split at e
    ·rename_i p hp'
     split at e
     ·rename_i vs hvs;cases e;exact Yw.put rfl (Qf.buildA D hd hn (ok.zv hz) (ok.ar hp') (Ui h1 hq) e1 hvs)
     cases e
    cases e
   cases e
  cases e
 ·rename_i Tx n parts D
  split at e
  ·rename_i qs hq
   split at e
   ·rename_i p hp'
    split at e
    ·rename_i zs hz
     replace e:=XV e;obtain⟨e1,e⟩:=e
     split at e
     ·rename_i vs hvs
      simp only[QL,Wy]at e1
      obtain⟨⟨⟨e3,e4⟩,e5⟩,e6⟩:=e1
      have e4:=YE e4
      split at e
      ·replace e:=XV e;obtain⟨e2,e⟩:=e
       cases e
       rw[QL]at e2
       exact Yw.put rfl (Qf.buildSliceD _ D hd hn (ok.es hp') (ok.zv hz) e4 (λh0=>by rw[h0]at e5;cases e5) (JK e6) (Ui h1 hq) e3 hvs e2.1 e2.2 rfl)
      replace e:=XV e;obtain⟨e2,e⟩:=e
      cases e
      rw[QL]at e2
      exact Qf.buildSlice D hd hn (ok.es hp') (ok.zv hz) e4 (λh0=>by rw[h0]at e5;cases e5) (JK e6) (Ui h1 hq) e3 hvs e2.1 e2.2 rfl (hf rfl)
     cases e
    cases e
   cases e
  cases e
 ·rename_i x i D
  split at e
  ·rename_i vs hv
   split at e
   ·rename_i v hv';cases e;exact Yw.put rfl (Qf.extract D hd hn (h1 _ _ hv) hv')
   cases e
  cases e
 ·rename_i x D
  split at e
  ·rename_i hv;cases e;exact Yw.put rfl (Qf.nilCheckL D hd hn (h1 _ _ hv))
  cases e
 ·rename_i Tx x D
  split at e
  ·rename_i v hv
   replace e:=XV e;obtain⟨e1,e⟩:=e
   cases e;exact Yw.put rfl (Qf.makeInterface D hd hn (h1 _ _ hv) (ok.cc e1))
  cases e
 ·rename_i x S Tx D
  split at e
  ·rename_i t v hv
   replace e:=XV e;obtain⟨e1,e⟩:=e
   rw[QL]at e1
   have:=YE e1.1;subst this
   cases e;exact Yw.put rfl (Qf.typeAssert D hd hn (h1 _ _ hv) (ok.cc e1.2))
  cases e
 ·rename_i fn first caps D
  split at e
  ·rename_i vs hv
   split at e
   ·rename_i us hu;cases e;exact Yw.put rfl (Qf.makeFunc D hd hn (Uh h1 hv) (Uh h1 hu))
   cases e
  cases e
 ·rename_i Tx x y D
  split at e
  ·rename_i s hs
   split at e
   ·rename_i k j hj
    split at e
    ·replace e:=XV e;obtain⟨e1,e⟩:=e
     cases e;exact Yw.put rfl (Qf.idxStr' D hd hn (h1 _ _ hs) (h1 _ _ hj) (ok.sb e1) hφ)
    cases e
   cases e
  cases e
 ·rename_i Tx x y D
  split at e
  ·rename_i v hv
   split at e
   ·rename_i u hu;exact QjK ok D hd hn (h1 _ _ hv) (h1 _ _ hu) e hφ hf
   cases e
  cases e
 ·rename_i D;cases e;exact Qf.makeMap D hd hn (hf rfl)
 ·rename_i c D
  obtain⟨cl,ags,ts⟩:=c
  split at e
  ·rename_i hc
   dsimp only at hc e;subst hc
   split at e
   ·rename_i x y hxy
    split at e
    ·rename_i v hv
     split at e
     ·rename_i u hu
      have ea:ags=#[x,y]:=by rw[<-Qbc (xs:=ags),hxy]
      subst ea
      exact Qgq (mx:=true) D hd hn (h1 _ _ hv) (h1 _ _ hu) e
     cases e
    cases e
   cases e
  ·rename_i hc
   dsimp only at hc e;subst hc
   split at e
   ·rename_i x y hxy
    split at e
    ·rename_i v hv
     split at e
     ·rename_i u hu
      have ea:ags=#[x,y]:=by rw[<-Qbc (xs:=ags),hxy]
      subst ea
      exact Qgq (mx:=false) D hd hn (h1 _ _ hv) (h1 _ _ hu) e
     cases e
    cases e
   cases e
  ·rename_i hc
   dsimp only at hc e;subst hc
   split at e
   ·rename_i x hx
    split at e
    ·rename_i Tx hT
     split at e
     ·rename_i v hv
      have ea:ags=#[x]:=by rw[<-Qbc (xs:=ags),hx]
      have et:ts=#[Tx]:=by rw[<-Qbc (xs:=ts),hT]
      subst ea;subst et
      exact QiX ok D hd hn (h1 _ _ hv) e hφ
     cases e
    cases e
   cases e
  ·rename_i x hc
   dsimp only at hc e;subst hc
   split at e
   ·rename_i fn fs cs hx
    split at e
    ·rename_i vs hv
     have e1:XJ T.en fn=true:=by unfold Qhc at e;exact(XV e).1
     exact Qij ok (YU.clo D (h1 _ _ hx) (ok.en e1) (Uh h1 hv)) hd hn hpg h2 e hφ hf
    cases e
   cases e
  cases e
 cases e
end
inductive Fr where
 | seq (y:Code)
 | blk (id:Nat)
 | cut (K:St->Prop)
inductive Pt where
 | c (c:Code)
 | o (ops:Array Oper) (l:List Oper)
 | x (e:Exit)
section
variable (P:Program)(C:XA)(Q:Exit->St->Prop)
def unw : L_ Fr->Exit->St->Prop
 | []=>Q
 | .seq y::k=>ZD (λσ=>Ys P C y σ (unw k)) (unw k)
 | .blk id::k=>Rx id (unw k)
 | .cut K::k=>ZD K (unw k)
def AK (pt:Pt)(ks:L_ Fr)(σ:St):Prop:=match pt with
 | .c c=>Ys P C c σ (unw P C Q ks)
 | .o ops l=>AL P C ops l σ (unw P C Q ks)
 | .x e=>∀a w,R C σ a w->up C (unw P C Q ks) e a w
end
section
variable {P:Program}{C:XA}{Q:Exit->St->Prop}{σ σ':St}{ks:L_ Fr}
def AK.weaken {pt:Pt}(h:∀a w,R C σ a w->R C σ' a w)(k:AK P C Q pt ks σ'):AK P C Q pt ks σ:=by
 cases pt with
 | c c=>exact λa w y=>k a w (h a w y)
 | o ops l=>exact λa w y=>k a w (h a w y)
 | x e=>exact λa w y=>k a w (h a w y)
def AK.done {e:Exit}(h:Q e σ):AK P C Q (.x e) [] σ:=λa w y=>⟨σ,h,y⟩
def AK.met {K:St->Prop}(h:K σ):AK P C Q (.x .normal) (.cut K::ks) σ:=λa w y=>⟨σ,h,y⟩
def AK.seq {x y:Code}(h:AK P C Q (.c x) (.seq y::ks) σ):AK P C Q (.c (.seq x y)) ks σ:=Ys.seq h
def AK.block {id:Nat}{x:Code}(h:AK P C Q (.c x) (.blk id::ks) σ):AK P C Q (.c (.block id x)) ks σ:=Ys.block h
def AK.region {id:Nat}{ops:Array Oper}(h:AK P C Q (.o ops ops.toList) ks σ):AK P C Q (.c (.region id ops false)) ks σ:=Ys.region h
def AK.skip (h:AK P C Q (.x .normal) ks σ):AK P C Q (.c .skip) ks σ:=λa w y=>wpIn_skip (h a w y)
def AK.label {l:Nat}(h:AK P C Q (.x .normal) ks σ):AK P C Q (.c (.label l)) ks σ:=λa w y=>wpIn_label (h a w y)
def AK.exit {id:Nat}(h:AK P C Q (.x (.exit id)) ks σ):AK P C Q (.c (.exit id)) ks σ:=λa w y=>wpIn_exit (h a w y)
def AK.ret (h:AK P C Q (.x .ret) ks σ):AK P C Q (.c .ret) ks σ:=λa w y=>wpIn_ret (h a w y)
def AK.nil {ops:Array Oper}(h:AK P C Q (.x .normal) ks σ):AK P C Q (.o ops []) ks σ:=h
def AK.popSeq {y:Code}(h:AK P C Q (.c y) ks σ):AK P C Q (.x .normal) (.seq y::ks) σ:=λa w D=>⟨σ,h,D⟩
def AK.popBlk {id:Nat}(h:AK P C Q (.x .normal) ks σ):AK P C Q (.x .normal) (.blk id::ks) σ:=h
def AK.exSeq {y:Code}{i:Nat}(h:AK P C Q (.x (.exit i)) ks σ):AK P C Q (.x (.exit i)) (.seq y::ks) σ:=h
def AK.exCut {K:St->Prop}{i:Nat}(h:AK P C Q (.x (.exit i)) ks σ):AK P C Q (.x (.exit i)) (.cut K::ks) σ:=h
def AK.exBlk {i j:Nat}(e:Nat.beq i j=true)(h:AK P C Q (.x .normal) ks σ):AK P C Q (.x (.exit i)) (.blk j::ks) σ:=λa w y=>
 let ⟨σ',h1,h2⟩:=h a w y;⟨σ',Qnf e h1,h2⟩
def AK.exBlk' {i j:Nat}(e:Nat.beq i j=false)(h:AK P C Q (.x (.exit i)) ks σ):AK P C Q (.x (.exit i)) (.blk j::ks) σ:=λa w y=>
 let ⟨σ',h1,h2⟩:=h a w y;⟨σ',Qng e h1,h2⟩
def AK.retPop {f:Fr}(h:AK P C Q (.x .ret) ks σ):AK P C Q (.x .ret) (f::ks) σ:=by
 cases f<;>exact h
def AK.meet {x y:Code}(K:St->Prop)(h:AK P C Q (.c x) (.cut K::ks) σ)(D:∀σ',K σ'->AK P C Q (.c y) ks σ'):AK P C Q (.c (.seq x y)) ks σ:=Ys.seqK K h D
def AK.meetX {c:Code}(K:St->Prop)(hx:AK P C Q (.c c) (.cut K::ks) σ)(hy:∀σ',K σ'->AK P C Q (.x .normal) ks σ'):AK P C Q (.c c) ks σ:=by
 intro a w D
 refine wpIn_mono (hx a w D) ?_
 rintro e a w ⟨σ',h,y⟩
 cases e<;>first | exact hy σ' h a w y | exact⟨σ',h,y⟩
def Qhq {τ ρ:Type}(E:τ->St->Prop)(h:ρ->Exit->St->Prop)(o:τ⊕ρ):Exit->St->Prop:=
 ZD (λσ'=>∃y,o=.inl y/\E y σ') (λe σ'=>∃r,o=.inr r/\h r e σ')
def Pi {τ ρ:Type}{E:τ->St->Prop}{y:ρ->Exit->St->Prop}{o:τ⊕ρ}{D:τ}(h:o=.inl D)(he:E D σ):AK P C (Qhq E y o) (.x .normal) [] σ:=AK.done ⟨D,h,he⟩
def RF {τ ρ:Type}{E:τ->St->Prop}{y:ρ->Exit->St->Prop}{o:τ⊕ρ}{r:ρ}{i:Nat}(h:o=.inr r)(D:y r (.exit i) σ):AK P C (Qhq E y o) (.x (.exit i)) [] σ:=AK.done ⟨r,h,D⟩
def Qhr {τ ρ:Type}{E:τ->St->Prop}{y:ρ->Exit->St->Prop}{o:τ⊕ρ}{r:ρ}(h:o=.inr r)(D:y r .ret σ):AK P C (Qhq E y o) (.x .ret) [] σ:=AK.done ⟨r,h,D⟩
def AK.loop {τ ρ:Type}{body:τ->O_ (τ⊕ρ)}{c:Code}(E:τ->St->Prop)(y:ρ->Exit->St->Prop){s0:τ}{r:ρ}(hr:QQ body s0=some r)(h0:E s0 σ)
  (round:∀s o σ,E s σ->body s=some o->AK P C (Qhq E y o) (.c c) [] σ) (hQ:∀e σ',y r e σ'->AK P C Q (.x e) ks σ'):AK P C Q (.c (.loop c)) ks σ:=by
 intro a w hR
 refine wpIn_mono (Ys.loop (Q:=λe σ'=>y r e σ') E y round (Tc.1 hr) h0 (λe σ' h=>h) a w hR) ?_
 rintro e a' w' ⟨σ',hp,D⟩
 exact hQ e σ' hp a' w' D
end
def V.isUnd : V->Bool
 | .lit (.tuple a)=>a.isEmpty
 | _=>false
def V.isUnd_eq {v:V}(h:v.isUnd=true):v=.lit undef:=by
 unfold V.isUnd at h
 split at h
 ·rename_i a;rw[Array.isEmpty_iff]at h;subst h;rfl
 cases h
inductive Ent where
 | fn
 | clo
 | me (f:Nat)
 | mv (f e:Nat)
def Gd : L_ (Nat×Nat)->Nat->O_ Nat
 | [],_=>none
 | (b,h)::r,a=>bif Nat.beq h a then some b else Gd r a
def trC (bk:Nat->O_ Nat):V->O_ V
 | .own a n=>match bk a with
  | some b=>some (.own b n)
  | none=>none
 | .loc a i d=>match bk a with
  | some b=>some (.loc b i d)
  | none=>none
 | .map a=>match bk a with
  | some b=>some (.map b)
  | none=>none
 | .ifc t x=>match trC bk x with
  | some y=>some (.ifc t y)
  | none=>none
 | v=>bif v.datA then some v else none
def trL (bk:Nat->O_ Nat):L_ V->O_ (L_ V)
 | []=>some []
 | v::vs=>match trC bk v with
  | some u=>match trL bk vs with
   | some us=>some (u::us)
   | none=>none
  | none=>none
def trV (bk:Nat->O_ Nat):V->O_ V
 | .agg h=>bif (V.agg h).datA then some (.agg h)else match trL bk h with
  | some us=>some (.agg us)
  | none=>none
 | .tup h=>bif (V.tup h).datA then some (.tup h)else match trL bk h with
  | some us=>some (.tup us)
  | none=>none
 | .clo fn fs h=>match trL bk fs with
  | some us=>match trL bk h with
   | some ds=>some (.clo fn us ds)
   | none=>none
  | none=>none
 | v=>trC bk v
def Qhs (bk:Nat->O_ Nat):L_ V->O_ (L_ V)
 | []=>some []
 | v::vs=>match trV bk v with
  | some u=>match Qhs bk vs with
   | some us=>some (u::us)
   | none=>none
  | none=>none
def trO (bk:Nat->O_ Nat):Ob->O_ Ob
 | .var h=>match Qhs bk h with
  | some us=>some (.var us)
  | none=>none
 | .lp l K h q=>match Qhs bk h with
  | some us=>some (.lp l K us q)
  | none=>none
 | .arr z rs=>some (.arr z rs)
 | .map l=>some (.map l)
 | .grp z l y=>some (.grp z l y)
 | .tbl A z rs=>some (.tbl A z rs)
 | _=>none
def Qmb (bk:Nat->O_ Nat):Mode->V->O_ V
 | .n z,.lit (.slice none 0 0)=>some (.sl z [])
 | .d,v=>trV bk v
 | .f n,.agg h=>match trL bk (h.set n .J)with
  | some us=>match us[n]? with
   | some .J=>some (.agg us)
   | _=>none
  | none=>none
 | _,_=>none
def MA (bk:Nat->O_ Nat):L_ Mode->L_ V->O_ (L_ V)
 | [],[]=>some []
 | m::ms,v::vs=>match Qmb bk m v with
  | some u=>match MA bk ms vs with
   | some us=>some (u::us)
   | none=>none
  | none=>none
 | _,_=>none
def CY (bk:Nat->O_ Nat)(src:Nat->O_ Ob):L_ (Nat×Nat)->O_ H_
 | []=>some []
 | (d,s)::r=>match src s with
  | some ob=>match trO bk ob with
   | some ob'=>match CY bk src r with
    | some l=>some ((d,ob')::l)
    | none=>none
   | none=>none
  | none=>none
def QkL (P:Program)(T:GL)(σ:St)(φ:Prop)(c:Call):Ent->O_ (Nat×L_ V×Prop)
 | .fn=>match c.callee with
  | .value (.func f)=>bif XJ T.en f then match Ti σ.opd c.args.toList with
   | some vs=>some (f,vs,φ)
   | none=>none
   else none
  | _=>none
 | .clo=>match c.callee with
  | .value x=>match σ.opd x with
   | some (.clo (.func f) fs h)=>bif XJ T.en f then match Ti σ.opd c.args.toList with
    | some vs=>some (f,fs++(vs++h),φ)
    | none=>none
    else none
   | _=>none
  | _=>none
 | .me f=>match c.callee with
  | .invoke x name=>match σ.opd x with
   | some (.ifc t u)=>bif XJ T.en f then match Ti σ.opd c.args.toList with
    | some vs=>some (f,u::vs,φ/\((UE P t name=some (f,true)/\Qdn P t=true)\/(UE P t name=some (f,false)/\RD P t=true)))
    | none=>none
    else none
   | _=>none
  | _=>none
 | .mv f e=>match c.callee with
  | .invoke x name=>match σ.opd x with
   | some (.ifc t (.loc b 0 off))=>match look σ.hp b with
    | some (.var h)=>match h[off]? with
     | some r=>bif XJ T.en f then match Ti σ.opd c.args.toList with
      | some vs=>some (f,r::vs,φ/\(UE P t name=some (f,false)/\Th P t e=true/\Ea P e=some false))
      | none=>none
      else none
     | none=>none
    | _=>none
   | _=>none
  | _=>none
def cmV (P:Program)(σ:St)(φ:Prop)(d f:Nat)(vs:L_ V)(M N:L_ (Nat×Nat))(dead:L_ Nat)(ms:L_ Mode)(outs:H_)(r:V):O_ (St×Prop):=
 bif DK σ M N dead outs&&Bc (M.map Prod.fst)&&Bc (N.map Prod.fst)then match MA (Gd M) ms vs with
  | some us=>match CY (Gd M) (look σ.hp) M with
   | some h=>match CY (Gd N) (look outs) N with
    | some y=>match trV (Gd N) r with
     | some D=>some ((σ.after dead y).put d D,φ/\QX P f us h (Gives r outs))
     | none=>none
    | none=>none
   | none=>none
  | none=>none
 else none
inductive Ak where
 | n (k:Nat)
 | o (h:KU)
 | v (h:KU) (ms:List (Option Nat)) (v:V)
 | br (b:Bool)
 | st (r:List V) (rs:List (List V))
 | app (rs:List (List V)) (m:Nat)
 | x (g:St->St)
 | say (t:Nat) (v:V)
 | sayO (b:Nat) (ob:Ob)
 | adopt (t b z:Nat)
 | denil (t:Nat) (ms:List (Option Nat))
 | denilO (b:Nat) (ms:List (Option Nat))
 | ren (o o':Nat)
 | kill (b:Nat)
 | keep (ts os:List Nat)
 | frz (b:Nat) (us:List (List V)) (ts os:List Nat)
 | adoptO (p i b z:Nat)
 | cm (en:Ent) (M N:List (Nat×Nat)) (dead:List Nat) (ms:List Mode) (outs:List (Nat×Ob)) (r:V)
structure Cfg where
 pt:Pt
 ks:List Fr
 σ:St
 φ:Prop
def RG (φ:Prop):O_ Prop->Prop
 | none=>φ
 | some p=>φ/\p
def ctl : Pt->L_ Fr->St->O_ (Pt×L_ Fr)
 | .c (.seq x y),ks,_=>some (.c x,.seq y::ks)
 | .c (.block id x),ks,_=>some (.c x,.blk id::ks)
 | .c (.region _ ops false),ks,_=>some (.o ops ops.toList,ks)
 | .c .skip,ks,_=>some (.x .normal,ks)
 | .c (.label _),ks,_=>some (.x .normal,ks)
 | .c (.exit i),ks,_=>some (.x (.exit i),ks)
 | .c .ret,ks,_=>some (.x .ret,ks)
 | .c (.cond c x y),ks,σ=>match σ.opd c with
  | some (.b true)=>some (.c x,ks)
  | some (.b false)=>some (.c y,ks)
  | _=>none
 | .o _ [],ks,_=>some (.x .normal,ks)
 | .x .normal,.seq y::ks,_=>some (.c y,ks)
 | .x .normal,.blk _::ks,_=>some (.x .normal,ks)
 | .x (.exit i),.seq _::ks,_=>some (.x (.exit i),ks)
 | .x (.exit i),.cut _::ks,_=>some (.x (.exit i),ks)
 | .x (.exit i),.blk j::ks,_=>bif Nat.beq i j then some (.x .normal,ks)else some (.x (.exit i),ks)
 | .x .ret,_::ks,_=>some (.x .ret,ks)
 | _,_,_=>none
def Ew (ops:Array Oper)(o:Oper)(f:Nat->O_ V):O_ Bool:=match o.guard with
 | none=>some true
 | some (j,t)=>match ops[j]? with
  | some h=>match h.dst with
   | some d=>match f d with
    | some (.b true)=>some t
    | some (.b false)=>some (!t)
    | some v=>bif v.isUnd then some false else none
    | none=>none
   | none=>none
  | none=>none
def QjL (T:GL)(y:TypeId)(σ:St)(φ:Prop):V->V->O_ (St×Prop)
 | .loc b i off,v=>match look σ.hp b with
  | some (.var h)=>match i with
   | 0=>match look T.sz y with
    | some n=>bif v.isV&&Nat.beq v.cells.length n&&v.cells.all V.one&&Nat.ble (off+n) h.length then some (σ.set b (.var (Kw h off v.cells)),φ)else none
    | none=>none
   | _=>none
  | _=>none
 | _,_=>none
def storeA (T:GL)(h:TypeId)(σ:St)(φ:Prop)(r:L_ V)(rs':L_ (L_ V)):V->V->O_ (St×Prop)
 | .loc b i off,v=>match look σ.hp b with
  | some (.arr z rs)=>match look T.sz h with
    | some n=>bif v.isV&&Nat.beq v.cells.length n&&v.cells.all V.one&&v.cells.all V.dat&&Nat.ble (off+n) z then
     some (σ.set b (.arr z rs'),φ/\(rs[i]? = some r/\rs.set i (Kw r off v.cells)=rs'))else none
    | none=>none
  | _=>none
 | _,_=>none
def DM (P:Program)(C:XA)(T:GL)(n:Nat)(h:KU)(D:O_ (L_ (O_ Nat)×V))(o:Oper)(σ:St)(φ:Prop):O_ (St×Prop):=match o.dst with
 | some d=>bif Nat.ble (d+1) n then match ev1 P C T h o d σ.opd (look σ.hp)with
  | some ⟨v,none,q⟩=>match D with
   | none=>some (σ.put d v,RG φ q)
   | some (ms,u)=>some (σ.put d u,RG φ q/\v.denil ms=u)
  | some ⟨v,some ob,q⟩=>match look σ.hp d with
   | none=>match D with
    | none=>some ((σ.set d ob).put d v,RG φ q)
    | some (ms,u)=>some ((σ.set d ob).put d u,RG φ q/\v.denil ms=u)
   | some _=>none
  | none=>none
  else none
 | none=>match o.op with
  | .store Tx x y=>match σ.opd x with
   | some p=>match σ.opd y with
    | some v=>QjL T Tx σ φ p v
    | none=>none
   | none=>none
  | _=>none
def QkM (T:GL)(n:Nat)(σ:St)(φ:Prop)(rs':L_ (L_ V))(m:Nat)(d Tx Ty:Nat):V->V->O_ (St×Prop)
 | .own b k,y=>match look σ.hp b with
  | some (.arr z rs)=>match look T.es Tx with
   | some (e,z',by_)=>match look T.zv e with
    | some zs=>bif (look T.es Ty).isSome&&Nat.ble (d+1) n&&!(Nat.ble 617 b)&&Nat.beq z z'&&Nat.beq zs.length z&&!(Nat.beq z 0)&&Nat.ble by_ 32768 then match y with
     | .sl h us=>bif Nat.beq z h then some (σ.app b z d m rs',φ/\(rs.length=k/\decide (k+us.length<=4294967296)=true/\rs++us=rs'/\k+us.length=m))else none
     | .own b' D=>match look σ.hp b' with
      | some (.arr h us)=>bif Nat.beq z h then some (σ.app b z d m rs',φ/\(rs.length=k/\decide (k+D<=4294967296)=true/\us.length=D/\rs++us=rs'/\k+D=m))else none
      | _=>none
     | .lit (.slice none 0 0)=>some (σ.app b z d k rs,φ/\(rs.length=k/\decide (k<=4294967296)=true))
     | _=>none
     else none
    | none=>none
   | none=>none
  | _=>none
 | _,_=>none
def Gg {α:Type}(l:L_ (Nat×α)):L_ Nat->O_ (L_ (Nat×α))
 | []=>some []
 | t::h=>match look l t with
  | some v=>match Gg l h with
   | some r=>some ((t,v)::r)
   | none=>none
  | none=>none
def V.frzC (b:Nat)(v s:V):V:=match v with
 | .own o k=>bif Nat.beq o b then s else .own o k
 | v=>v
def V.frz (b:Nat)(v s:V):V:=match v with
 | .agg h=>.agg (h.map λv=>v.frzC b s)
 | v=>v.frzC b s
def Qht (b:Nat)(rs us:L_ (L_ V)):V->Prop
 | .own o k=>bif Nat.beq o b then k<=rs.length/\rs.take k=us else True
 | _=>True
def ZR (b:Nat)(rs us:L_ (L_ V)):L_ V->Prop
 | []=>True
 | .own o k::r=>Qht b rs us (.own o k)/\ZR b rs us r
 | _::r=>ZR b rs us r
def QkN (b:Nat)(rs us:L_ (L_ V)):V->Prop
 | .agg h=>ZR b rs us h
 | v=>Qht b rs us v
def V.isOwn (b:Nat):V->Bool
 | .own o _=>Nat.beq o b
 | _=>false
def V.frzB (b:Nat):V->Bool
 | .agg h=>h.all λc=>c.freeC b||c.isOwn b
 | v=>v.freeC b||v.isOwn b
def Qdp (b:Nat)(s:V)(rs us:L_ (L_ V))(σ0:St):L_ Nat->St->Prop->O_ (St×Prop)
 | [],σ,φ=>some (σ,φ)
 | t::h,σ,φ=>match look σ0.fr t with
  | some v=>bif v.frzB b then Qdp b s rs us σ0 h (σ.put t (v.frz b s)) (φ/\QkN b rs us v)else none
  | none=>none
def Qhu (b:Nat)(s:V)(rs us:L_ (L_ V))(σ0:St):L_ Nat->St->Prop->O_ (St×Prop)
 | [],σ,φ=>some (σ,φ)
 | p::y,σ,φ=>match look σ0.hp p with
  | some (.var h)=>bif !(Nat.beq p b)&&h.all (λc=>c.freeC b||c.isOwn b)&&(look σ.hp p).isSome then Qhu b s rs us σ0 y (σ.set p (.var (h.map λv=>v.frzC b s))) (φ/\ZR b rs us h)else none
  | _=>none
def QkO (P:Program)(C:XA)(T:GL)(n:Nat):Ak->Pt->L_ Fr->St->Prop->O_ Cfg
 | .o h,.o ops (o::l),ks,σ,φ=>match Ew ops o (look σ.fr)with
  | some true=>match DM P C T n h none o σ φ with
   | some (σ',φ')=>some ⟨.o ops l,ks,σ',φ'⟩
   | none=>none
  | _=>none
 | .v h ms u,.o ops (o::l),ks,σ,φ=>match Ew ops o (look σ.fr)with
  | some true=>match DM P C T n h (some (ms,u)) o σ φ with
   | some (σ',φ')=>some ⟨.o ops l,ks,σ',φ'⟩
   | none=>none
  | _=>none
 | .st r rs,.o ops (o::l),ks,σ,φ=>match Ew ops o (look σ.fr)with
  | some true=>match o.dst with
   | none=>match o.op with
    | .store Tx x y=>match σ.opd x with
     | some p=>match σ.opd y with
      | some v=>match storeA T Tx σ φ r rs p v with
       | some (σ',φ')=>some ⟨.o ops l,ks,σ',φ'⟩
       | none=>none
      | none=>none
     | none=>none
    | _=>none
   | some _=>none
  | _=>none
 | .app rs m,.o ops (o::l),ks,σ,φ=>match Ew ops o (look σ.fr)with
  | some true=>match o.dst with
   | some d=>match o.op with
    | .call c=>match c.callee with
     | .builtin .append=>match c.args.toList with
      | [x,y]=>match c.argTypes.toList with
       | [Tx,Ty]=>match σ.opd x with
        | some p=>match σ.opd y with
         | some v=>match QkM T n σ φ rs m d Tx Ty p v with
          | some (σ',φ')=>some ⟨.o ops l,ks,σ',φ'⟩
          | none=>none
         | none=>none
        | none=>none
       | _=>none
      | _=>none
     | _=>none
    | _=>none
   | none=>none
  | _=>none
 | .x g,.o ops (o::l),ks,σ,φ=>match Ew ops o (look σ.fr)with
  | some true=>some ⟨.o ops l,ks,g σ,φ/\Qf P C o σ (g σ)⟩
  | _=>none
 | .cm en M N dead ms outs r,.o ops (o::l),ks,σ,φ=>match Ew ops o (look σ.fr)with
  | some true=>match o.dst with
   | some d=>bif Nat.ble (d+1) n then match o.op with
    | .call c=>match QkL P T σ φ c en with
     | some (f,vs,φ1)=>match cmV P σ φ1 d f vs M N dead ms outs r with
      | some (σ',φ')=>some ⟨.o ops l,ks,σ',φ'⟩
      | none=>none
     | none=>none
    | _=>none
    else none
   | none=>none
  | _=>none
 | .br b,.c (.cond c x y),ks,σ,φ=>match σ.opd c with
  | some (.b t)=>match b with
   | true=>some ⟨.c x,ks,σ,φ/\t=true⟩
   | false=>some ⟨.c y,ks,σ,φ/\t=false⟩
  | _=>none
 | .say t v,pt,ks,σ,φ=>match look σ.fr t with
  | some u=>some ⟨pt,ks,σ.put t v,φ/\u=v⟩
  | none=>none
 | .sayO b ob,pt,ks,σ,φ=>match look σ.hp b with
  | some u=>some ⟨pt,ks,σ.set b ob,φ/\u=ob⟩
  | none=>none
 | .adopt t b z,pt,ks,σ,φ=>match look σ.fr t with
  | some (.lit (.slice none 0 0))=>match look σ.hp b with
   | none=>bif Nat.ble 617 b then none else some ⟨pt,ks,(σ.set b (.arr z [])).put t (.own b 0),φ⟩
   | some _=>none
  | _=>none
 | .denil t ms,pt,ks,σ,φ=>match look σ.fr t with
  | some v=>some ⟨pt,ks,σ.put t (v.denil ms),φ⟩
  | none=>none
 | .denilO b ms,pt,ks,σ,φ=>match look σ.hp b with
  | some (.var D)=>some ⟨pt,ks,σ.set b (.var (Dg ms D)),φ⟩
  | _=>none
 | .ren o o',pt,ks,σ,φ=>bif !(Nat.ble 615 o)&&!(Nat.ble 615 o')&&(look σ.hp o').isNone then some ⟨pt,ks,σ.ren o o',φ⟩else none
 | .kill b,pt,ks,σ,φ=>some ⟨pt,ks,σ.kill b,φ⟩
 | .frz b us ts os,pt,ks,σ,φ=>match look σ.hp b with
  | some (.arr z rs)=>bif !(Nat.ble 615 b)then match Qdp b (.sl z us) rs us σ ts (σ.kill b) True with
   | some (σ1,φ1)=>match Qhu b (.sl z us) rs us σ os σ1 φ1 with
    | some (σ2,φ2)=>some ⟨pt,ks,σ2,φ/\φ2⟩
    | none=>none
   | none=>none
   else none
  | _=>none
 | .adoptO p i b z,pt,ks,σ,φ=>match look σ.hp p with
  | some (.var D)=>match D[i]? with
   | some (.lit (.slice none 0 0))=>match look σ.hp b with
    | none=>bif Nat.beq p b||Nat.ble 617 b then none else some ⟨pt,ks,(σ.set b (.arr z [])).set p (.var (D.set i (.own b 0))),φ⟩
    | some _=>none
   | _=>none
  | _=>none
 | .keep ts os,pt,ks,σ,φ=>match Gg σ.fr ts with
  | some fr=>match Gg σ.hp os with
   | some hp=>bif St.closed ⟨fr,hp⟩then some ⟨pt,ks,⟨fr,hp⟩,φ⟩else none
   | none=>none
  | none=>none
 | _,_,_,_,_=>none
def plain (P:Program)(C:XA)(T:GL)(n:Nat):Nat->Pt->L_ Fr->St->Prop->O_ Cfg
 | 0,pt,ks,σ,φ=>some ⟨pt,ks,σ,φ⟩
 | k+1,.o ops (o::l),ks,σ,φ=>match Ew ops o (look σ.fr)with
  | some true=>match DM P C T n .no none o σ φ with
   | some (σ',φ')=>plain P C T n k (.o ops l) ks σ' φ'
   | none=>none
  | some false=>match o.dst with
   | some d=>bif Nat.ble (d+1) n then plain P C T n k (.o ops l) ks (σ.put d (.lit undef)) φ else none
   | none=>plain P C T n k (.o ops l) ks σ φ
  | none=>none
 | k+1,pt,ks,σ,φ=>match ctl pt ks σ with
  | some (y,h)=>plain P C T n k y h σ φ
  | none=>none
def go (P:Program)(C:XA)(T:GL)(n:Nat):L_ Ak->Pt->L_ Fr->St->Prop->O_ Cfg
 | [],pt,ks,σ,φ=>some ⟨pt,ks,σ,φ⟩
 | .n k::ds,pt,ks,σ,φ=>match plain P C T n k pt ks σ φ with
  | some ⟨y,h,σ',φ'⟩=>go P C T n ds y h σ' φ'
  | none=>none
 | d::ds,pt,ks,σ,φ=>match QkO P C T n d pt ks σ φ with
  | some ⟨y,h,σ',φ'⟩=>go P C T n ds y h σ' φ'
  | none=>none
section
variable {P:Program}{C:XA}{T:GL}{Q:Exit->St->Prop}{n:Nat}{φ:Nat->O_ Xa}{σ:St}{a:Act}{w:World}
def QiY (P:Program)(C:XA)(Q:Exit->St->Prop)(pt:Pt)(ks:L_ Fr)(σ:St)(φ:Prop)(c:Cfg):Prop:=c.φ->φ/\(AK P C Q c.pt c.ks c.σ->AK P C Q pt ks σ)
def RH {φ:Prop}{q:O_ Prop}{v:V}{ob:O_ Ob}(h:RG φ q):φ/\Rs.holds ⟨v,ob,q⟩:=by
 cases q with
 | none=>exact⟨h,trivial⟩
 | some p=>exact h
def QjM {pt D:Pt}{ks y:L_ Fr}{σ:St}(h:ctl pt ks σ=some (D,y))(k:AK P C Q D y σ):AK P C Q pt ks σ:=by
 unfold ctl at h
 split at h
 ·cases h;exact AK.seq k
 ·cases h;exact AK.block k
 ·cases h;exact AK.region k
 ·cases h;exact AK.skip k
 ·cases h;exact AK.label k
 ·cases h;exact AK.exit k
 ·cases h;exact AK.ret k
 ·split at h
  ·rename_i hc;cases h;exact Ys.cond_true hc k
  ·rename_i hc;cases h;exact Ys.cond_false hc k
  cases h
 ·cases h;exact AK.nil k
 ·cases h;exact AK.popSeq k
 ·cases h;exact AK.popBlk k
 ·cases h;exact AK.exSeq k
 ·cases h;exact AK.exCut k
 ·rename_i _ i j ks
  cases hb:Nat.beq i j with
  | true=>rw[hb]at h;cases h;exact AK.exBlk hb k
  | false=>rw[hb]at h;cases h;exact AK.exBlk' hb k
 ·cases h;exact AK.retPop k
 cases h
def OS {ops:Array Oper}{o:Oper}{f:Nat->O_ V}{b:Bool}(h:Ew ops o f=some b):
  (o.guard=none/\b=true)\/∃j t d,o.guard=some (j,t)/\((ops[j]?).bind (·.dst))=some d/\((∃u,f d=some (.b u)/\b=(u==t))\/(f d=some (.lit undef)/\b=false)):=by
 unfold Ew at h
 split at h
 ·rename_i D;cases h;exact .inl ⟨D,rfl⟩
 rename_i j t D
 split at h
 ·rename_i oj hj
  split at h
  ·rename_i d hd
   have hjd:((ops[j]?).bind (·.dst))=some d:=by rw[hj];exact hd
   refine .inr ⟨j,t,d,D,hjd,?_⟩
   split at h
   ·rename_i y;cases h;exact .inl ⟨true,y,by simp⟩
   ·rename_i y;cases h;exact .inl ⟨false,y,by simp⟩
   ·rename_i v _ _ y
    obtain⟨h1,h⟩:=XV h
    cases h
    exact .inr ⟨by rw[y,V.isUnd_eq h1],rfl⟩
   cases h
  cases h
 cases h
def AL.want {ops:Array Oper}{o:Oper}{l:L_ Oper}{σ σ':St}{Q:Exit->St->Prop}(h:Ew ops o (look σ.fr)=some true)(hs:Qf P C o σ σ')(k:AL P C ops l σ' Q):AL P C ops (o::l) σ Q:=by
 rcases OS h with⟨D,_⟩|⟨j,t,d,D,hj,⟨u,hu,y⟩|⟨_,y⟩⟩
 ·exact AL.cons D hs k
 ·have:u=t:=by simpa using y.symm
  exact AL.consGT D hj hu this hs k
 cases y
def AL.pass {ops:Array Oper}{o:Oper}{l:L_ Oper}{σ:St}{Q:Exit->St->Prop}{d:Nat}(h:Ew ops o (look σ.fr)=some false)(hd:o.dst=some d)(hn:B_ d C)(k:AL P C ops l (σ.put d (.lit undef)) Q):AL P C ops (o::l) σ Q:=by
 rcases OS h with⟨_,y⟩|⟨j,t,e,hg,hj,⟨u,D,y⟩|⟨D,_⟩⟩
 ·cases y
 ·have:u=!t:=by cases u<;>cases t<;>first | rfl | cases y
  exact AL.consNT hg hj D this hd hn k
 exact AL.consU hg hj D hd hn k
def AL.pass0 {ops:Array Oper}{o:Oper}{l:L_ Oper}{σ:St}{Q:Exit->St->Prop}(h:Ew ops o (look σ.fr)=some false)(hd:o.dst=none)(k:AL P C ops l σ Q):AL P C ops (o::l) σ Q:=by
 rcases OS h with⟨_,y⟩|⟨j,t,e,hg,hj,⟨u,D,y⟩|⟨D,_⟩⟩
 ·cases y
 ·have:u=!t:=by cases u<;>cases t<;>first | rfl | cases y
  exact AL.consNT0 hg hj D this hd k
 exact AL.consU0 hg hj D hd k
def RR.putDenil {d:Nat}{v:V}{ms:L_ (O_ Nat)}(h:RR C φ (σ.put d v) a w):RR C φ (σ.put d (v.denil ms)) a w:=by
 obtain⟨x,hx,D⟩:=h.frame d v (QC _ _ _)
 refine(h.say hx (D.denil (ms:=ms))).le λt u y=>?_
 by_cases e:d=t
 ·subst e
  have y:look ((d,v.denil ms)::σ.fr) d=some u:=y
  rw[QC]at y
  show look ((d,v.denil ms)::_) d=some u
  rw[QC];exact y
 have y:look ((d,v.denil ms)::σ.fr) t=some u:=y
 rw[QA _ _ e]at y
 show look ((d,v.denil ms)::(d,v)::σ.fr) t=some u
 rw[QA _ _ e,QA _ _ e];exact y
def Qf.denil {o:Oper}{σ σ':St}{d:Nat}{v:V}{ms:L_ (O_ Nat)}(h:Qf P C o σ (σ'.put d v)):Qf P C o σ (σ'.put d (v.denil ms)):=
 λa w D next Q hn=>h a w D next Q λy w' ⟨φ,hr⟩=>hn y w' ⟨φ,hr.putDenil⟩
def Qbn {h:KU}{sv:O_ (L_ (O_ Nat)×V)}{o:Oper}{σ σ':St}{φ φ':Prop}(ok:WT P T)(hN:Jq P C n)(e:DM P C T n h sv o σ φ=some (σ',φ'))(hφ:φ'):φ/\Qf P C o σ σ':=by
 have hn:=hN.n
 unfold DM at e
 split at e
 ·rename_i d hd
  replace e:=XV e;obtain⟨e1,e⟩:=e
  rw[<-hn]at e1
  split at e
  ·rename_i v q D
   have key:∀q':Prop,RG φ q/\q'->φ/\Qf P C o σ (σ.put d v):=λq' h=>by
    obtain⟨a,b⟩:=RH h.1
    exact⟨a,Qbm ok hd e1 hN.g (λ_ _ h=>h) (λ_ _ h=>h) D b (λh=>by cases h)⟩
   split at e
   ·cases e;exact key True ⟨hφ,trivial⟩
   cases e;obtain⟨a,b⟩:=hφ;subst b;obtain⟨a1,a2⟩:=key True ⟨a,trivial⟩;exact⟨a1,a2.denil⟩
  ·rename_i v ob q D
   split at e
   ·rename_i hl
    have key:∀q':Prop,RG φ q/\q'->φ/\Qf P C o σ ((σ.set d ob).put d v):=λq' h=>by
     obtain⟨a,b⟩:=RH h.1
     exact⟨a,Qbm ok hd e1 hN.g (λ_ _ h=>h) (λ_ _ h=>h) D b (λ_=>hl)⟩
    split at e
    ·cases e;exact key True ⟨hφ,trivial⟩
    cases e;obtain⟨a,b⟩:=hφ;subst b;obtain⟨a1,a2⟩:=key True ⟨a,trivial⟩;exact⟨a1,a2.denil⟩
   cases e
  cases e
 rename_i hd
 split at e
 ·rename_i Tx x y ho
  split at e
  ·rename_i p hp
   split at e
   ·rename_i v hv
    unfold QjL at e
    split at e
    ·rename_i b i off v
     split at e
     ·rename_i cs hb
      split at e
      ·split at e
       ·rename_i k hk
        replace e:=XV e;obtain⟨e2,e⟩:=e
        cases e
        simp only[QL]at e2
        obtain⟨⟨⟨a1,a2⟩,a3⟩,a4⟩:=e2
        exact⟨hφ,Qf.storeL ho hd hp hb hv (V.isV_or a1) (ok.sz hk) (YE a2) a3 a4 rfl⟩
       cases e
      cases e
     cases e
    cases e
   cases e
  cases e
 cases e
def QiZ {o:Oper}{σ σ':St}{φ φ':Prop}{rs':L_ (L_ V)}{m d Tx Ty:Nat}{x y:Operand}{p v:V}(ok:WT P T)(hN:Jq P C n)(ho:o.op=.call { callee:=.builtin .append,args:=#[x,y],argTypes:=#[Tx,Ty] })(hd:o.dst=some d)
  (hx:σ.opd x=some p) (hy:σ.opd y=some v) (e:QkM T n σ φ rs' m d Tx Ty p v=some (σ',φ')) (hφ:φ'):φ/\Qf P C o σ σ':=by
 have hn:=hN.n
 unfold QkM at e
 split at e
 ·rename_i b k y'
  split at e
  ·rename_i z rs hb
   split at e
   ·rename_i et z' by_ D
    split at e
    ·rename_i zs hz
     replace e:=XV e;obtain⟨e1,e⟩:=e
     simp only[QL,Wy]at e1
     obtain⟨⟨⟨⟨⟨⟨a1,a2⟩,a3⟩,a4⟩,a5⟩,a6⟩,a7⟩:=e1
     have a4:=YE a4;subst a4
     have a5:=YE a5
     have a6:z≠0:=λh=>by rw[h]at a6;cases a6
     rw[<-hn]at a2
     obtain⟨⟨e2,z2,by2⟩,hU⟩:∃q,Yo P Ty=some q:=by
      cases hl:look T.es Ty with
      | none=>rw[hl]at a1;cases a1
      | some q=>exact⟨q,ok.es hl⟩
     split at e
     ·rename_i z'' us
      replace e:=XV e;obtain⟨e3,e⟩:=e
      have:=YE e3;subst this
      cases e
      obtain⟨h,h1,h2,h3,h4⟩:=hφ
      exact⟨h,Qf.appS ho hd a2 hx hb a3 h1 (ok.es D) hU (ok.zv hz) a5 a6 a7 h2 hy h3 h4⟩
     ·rename_i b' k'
      split at e
      ·rename_i z'' us hb'
       replace e:=XV e;obtain⟨e3,e⟩:=e
       have:=YE e3;subst this
       cases e
       obtain⟨h,h1,h2,h3,h4,h5⟩:=hφ
       exact⟨h,Qf.appO ho hd a2 hx hb a3 h1 (ok.es D) hU (ok.zv hz) a5 a6 a7 h2 hy hb' h3 h4 h5⟩
      cases e
     ·cases e
      obtain⟨h,h1,h2⟩:=hφ
      exact⟨h,Qf.appN ho hd a2 hx hb a3 h1 (ok.es D) hU (ok.zv hz) a5 a6 a7 h2 hy⟩
     cases e
    cases e
   cases e
  cases e
 cases e
def Qhv {o:Oper}{σ σ':St}{φ φ':Prop}{D:TypeId}{x y:Operand}{p v:V}{r:L_ V}{rs':L_ (L_ V)}(ok:WT P T)(ho:o.op=.store D x y)(hd:o.dst=none)(hx:σ.opd x=some p)(hy:σ.opd y=some v)
  (e:storeA T D σ φ r rs' p v=some (σ',φ')) (h:φ'):φ/\Qf P C o σ σ':=by
 unfold storeA at e
 split at e
 ·rename_i b i off v
  split at e
  ·rename_i z rs hb
   split at e
   ·rename_i k hk
    replace e:=XV e;obtain⟨e2,e⟩:=e
    cases e
    simp only[QL]at e2
    obtain⟨⟨⟨⟨a1,a2⟩,a3⟩,a4⟩,a5⟩:=e2
    exact⟨h.1,Qf.storeA ho hd hx hb h.2.1 hy (V.isV_or a1) (ok.sz hk) (YE a2) a3 a4 a5 h.2.2⟩
   cases e
  cases e
 cases e
def R.say {σ:St}{t:Nat}{v:V}(h:∃u,look σ.fr t=some u/\u=v){a:Act}{w:World}(hR:R C σ a w):R C (σ.put t v) a w:=by
 obtain⟨u,hu,rfl⟩:=h
 obtain⟨φ,D⟩:=hR
 obtain⟨x,hx,y⟩:=D.frame t _ hu
 exact⟨φ,D.say hx y⟩
def RR.sayOb (h:RR C φ σ a w){b:Nat}{ob ob':Ob}(D:look σ.hp b=some ob)(hs:∀B,φ b=some B->JL φ (Xj C φ w) w B ob->JL φ (Xj C φ w) w B ob')(he:ob=ob'\/¬ob.Nil):RR C φ (σ.set b ob') a w:=by
 rcases he with rfl | hne
 ·refine⟨h.os,h.tape,h.output,h.size,h.kept,h.inj,λo B hB=>?_,h.lt,h.new,h.stay.set D,h.tmps,h.defers,h.frame,λo ob'' y=>?_⟩
  ·by_cases e:o=b
   ·subst e;exact⟨_,σ.look_set_same _ _⟩
   rw[σ.look_set_other _ (Ne.symm e)];exact h.dom o B hB
  by_cases e:o=b
  ·subst e;rw[σ.look_set_same]at y;cases y;exact h.heap _ _ D
  rw[σ.look_set_other _ (Ne.symm e)]at y;exact h.heap _ _ y
 exact h.say' D hs hne
def R.sayO {σ:St}{b:Nat}{ob:Ob}(h:∃u,look σ.hp b=some u/\u=ob){a:Act}{w:World}(y:R C σ a w):R C (σ.set b ob) a w:=by
 obtain⟨u,hu,rfl⟩:=h
 obtain⟨φ,D⟩:=y
 exact⟨φ,D.sayOb hu (λ_ _ h=>h) (.inl rfl)⟩
def R.denil {σ:St}{t:Nat}{v:V}{ms:L_ (O_ Nat)}(h:look σ.fr t=some v){a:Act}{w:World}(hR:R C σ a w):R C (σ.put t (v.denil ms)) a w:=by
 obtain⟨φ,D⟩:=hR
 obtain⟨x,hx,y⟩:=D.frame t _ h
 exact⟨φ,D.say hx y.denil⟩
def R.denilO {σ:St}{b:Nat}{cs:L_ V}{ms:L_ (O_ Nat)}(h:look σ.hp b=some (.var cs)){a:Act}{w:World}(hR:R C σ a w):R C (σ.set b (.var (Dg ms cs))) a w:=by
 obtain⟨φ,hr⟩:=hR
 refine⟨φ,hr.sayOb h (λB hB y=>?_) (.inr λe=>e.elim)⟩
 obtain⟨xs,E,h1,h2,h0,h3⟩:=y
 refine⟨xs,E,h1,by rw[ZI];exact h2,h0,λj x v hx hv=>?_⟩
 obtain⟨m,v',D,rfl⟩:=Rz _ _ j v hv
 exact(h3 j x v' hx D).den1
section
variable {hp:H_}{g:Bool}{bad:L_ Nat}{m:Nat->Nat->Prop}{bk:Nat->O_ Nat}
def Qbo (hm:∀a b,bk a=some b->m a b):∀(v:V) {u:V},trC bk v=some u->Vw hp g false bad m v u
 | .own a n,u,h=>by rw[trC]at h;split at h<;>first | (rename_i b D;cases h;exact .own _ _ _ (hm _ _ D)) | cases h
 | .loc a i d,u,h=>by rw[trC]at h;split at h<;>first | (rename_i b D;cases h;exact .loc _ _ _ _ (hm _ _ D)) | cases h
 | .map a,u,h=>by rw[trC]at h;split at h<;>first | (rename_i b D;cases h;exact .map _ _ (hm _ _ D)) | cases h
 | .ifc t x,u,h=>by
  rw[trC]at h
  split at h
  ·rename_i y hy;cases h;exact .ifc _ _ _ (Qbo hm x hy)
  cases h
 | .b _,u,h | .i _ _,u,h | .s _,u,h | .sl _ _,u,h | .sln _ _ _,u,h | .e0,u,h | .ro _,u,h | .agg _,u,h | .tup _,u,h | .clo _ _ _,u,h | .lit _,u,h | .J,u,h=>by
  have h:=XV (show(bif V.datA _ then some _ else none)=some u from h)
  obtain⟨h1,h2⟩:=h
  cases h2
  exact .dat _ h1 (λe=>by cases e)
def OT (hm:∀a b,bk a=some b->m a b):∀{vs us:L_ V},trL bk vs=some us->vs.length=us.length/\∀(j:Nat) c u,vs[j]? = some c->us[j]? = some u->Vw hp g false bad m c u:=by
 intro vs
 induction vs with
 | nil=>intro us h;cases h;simp
 | cons v vs ih=>
  intro us h
  rw[trL]at h
  split at h
  ·rename_i u hu
   split at h
   ·rename_i us' hus
    cases h
    obtain⟨a,b⟩:=ih hus
    refine⟨by simp[a],λj c w y D=>?_⟩
    cases j with
    | zero=>simp at y D;subst y;subst D;exact Qbo hm _ hu
    | succ j=>simp at y D;exact b j c w y D
   cases h
  cases h
def Md (hm:∀a b,bk a=some b->m a b){v u:V}(h:trV bk v=some u):Vw hp g false bad m v u:=by
 unfold trV at h
 split at h
 ·rename_i cs
  cases D:(V.agg cs).datA with
  | true=>rw[D]at h;cases h;exact .dat _ D (λe=>by cases e)
  | false=>
   rw[D]at h;dsimp only[cond_false]at h
   split at h
   ·rename_i us y;cases h;obtain⟨a,b⟩:=OT hm y;exact .agg _ _ a b
   cases h
 ·rename_i cs
  cases D:(V.tup cs).datA with
  | true=>rw[D]at h;cases h;exact .dat _ D (λe=>by cases e)
  | false=>
   rw[D]at h;dsimp only[cond_false]at h
   split at h
   ·rename_i us y;cases h;obtain⟨a,b⟩:=OT hm y;exact .tup _ _ a b
   cases h
 ·split at h
  ·rename_i us y
   split at h
   ·rename_i ds hds;cases h;obtain⟨a,b⟩:=OT hm y;obtain⟨a',b'⟩:=OT hm hds;exact .clo _ _ _ _ _ a a' b b'
   cases h
  cases h
 exact Qbo hm _ h
def Qer (hm:∀a b,bk a=some b->m a b):∀{vs us:L_ V},Qhs bk vs=some us->vs.length=us.length/\∀(j:Nat) c u,vs[j]? = some c->us[j]? = some u->Vw hp g false bad m c u:=by
 intro vs
 induction vs with
 | nil=>intro us h;cases h;simp
 | cons v vs ih=>
  intro us h
  rw[Qhs]at h
  split at h
  ·rename_i u hu
   split at h
   ·rename_i us' hus
    cases h
    obtain⟨a,b⟩:=ih hus
    refine⟨by simp[a],λj c w y D=>?_⟩
    cases j with
    | zero=>simp at y D;subst y;subst D;exact Md hm hu
    | succ j=>simp at y D;exact b j c w y D
   cases h
  cases h
def QjN (D:∀a b,bk a=some b->m a b){ob ob':Ob}(h:trO bk ob=some ob'):VP hp g false bad m ob ob':=by
 unfold trO at h
 split at h
 ·split at h
  ·rename_i us y;cases h;obtain⟨a,b⟩:=Qer D y;exact .var _ _ a b
  cases h
 ·split at h
  ·rename_i us y;cases h;obtain⟨a,b⟩:=Qer D y;exact .lp _ _ _ _ _ a b
  cases h
 ·cases h;exact .arr _ _ (λe=>by cases e)
 ·cases h;exact .map _ (λe=>by cases e)
 ·cases h;exact .grp _ _ _ rfl
 ·cases h;exact .tbl _ _ _ rfl
 cases h
def IP (hm:∀a b,bk a=some b->m a b):∀{ms:L_ Mode} {vs us:L_ V},MA bk ms vs=some us->Vws hp g false bad m vs us:=by
 intro ms
 induction ms with
 | nil=>intro vs us h;cases vs with
  | nil=>cases h;exact .nil
  | cons=>cases h
 | cons md ms ih=>
  intro vs us h
  cases vs with
  | nil=>cases h
  | cons v vs=>
   rw[MA]at h
   split at h
   ·rename_i u y
    split at h
    ·rename_i us' hus
     cases h
     refine .cons ?_ (ih hus)
     unfold Qmb at y
     split at y
     ·cases y;exact .nil _
     ·exact Md hm y
     ·rename_i n cs
      split at y
      ·rename_i us2 D
       split at y
       ·rename_i hj
        cases y
        obtain⟨a,b⟩:=OT hm D
        refine .agg _ _ (by rw[<-a];simp) λj c w hc hw=>?_
        by_cases e:j=n
        ·subst e;rw[hj]at hw;cases hw;exact .forget _
        exact b j c w (by rw[List.getElem?_set,if_neg (Ne.symm e)];exact hc) hw
       cases y
      cases y
     cases y
    cases h
   cases h
def Gh (hm:∀a b,bk a=some b->m a b){src:H_}:∀{M:L_ (Nat×Nat)} {l:H_},CY bk (look src) M=some l->Iy hp g false bad m src M l:=by
 intro M
 induction M with
 | nil=>intro l h;cases h;exact .nil
 | cons p M ih=>
  intro l h
  obtain⟨d,s⟩:=p
  rw[CY]at h
  split at h
  ·rename_i ob D
   split at h
   ·rename_i ob' y
    split at h
    ·rename_i l' hl;cases h;exact .cons D (QjN hm y) (ih hl)
    cases h
   cases h
  cases h
def CP : ∀{M:L_ (Nat×Nat)} {a b:Nat},Gd M a=some b->(b,a)∈M:=by
 intro M
 induction M with
 | nil=>intro a b h;cases h
 | cons p M ih=>
  intro a b h
  obtain⟨b',D⟩:=p
  rw[Gd]at h
  cases y:Nat.beq D a with
  | true=>rw[y]at h;cases h;rw[YE y];exact YF
  | false=>rw[y]at h;exact Jz _ (ih h)
end
def Qi0 {o:Oper}{σ:St}{φ φ':Prop}{c:Call}{en:Ent}{f:Nat}{vs:L_ V}(ok:WT P T)(ho:o.op=.call c)(e:QkL P T σ φ c en=some (f,vs,φ'))(D:φ'):φ/\YU P C o σ f vs:=by
 obtain⟨ce,ags,ts⟩:=c
 unfold QkL at e
 split at e
 ·split at e
  ·rename_i f' y
   dsimp only at y;subst y
   replace e:=XV e;obtain⟨e1,e⟩:=e
   split at e
   ·rename_i vs' hv;cases e;exact⟨D,YU.fn ho (ok.en e1) (Uh (λ_ _ h=>h) hv)⟩
   cases e
  cases e
 ·split at e
  ·rename_i x y
   dsimp only at y;subst y
   split at e
   ·rename_i f' fs cs hx
    replace e:=XV e;obtain⟨e1,e⟩:=e
    split at e
    ·rename_i vs' hv;cases e;exact⟨D,YU.clo ho hx (ok.en e1) (Uh (λ_ _ h=>h) hv)⟩
    cases e
   cases e
  cases e
 ·split at e
  ·rename_i x name y
   dsimp only at y;subst y
   split at e
   ·rename_i t u hx
    replace e:=XV e;obtain⟨e1,e⟩:=e
    split at e
    ·rename_i vs' hv;cases e;exact⟨D.1,YU.meth (r:=u) ho hx D.2 (ok.en e1) (Uh (λ_ _ h=>h) hv)⟩
    cases e
   cases e
  cases e
 split at e
 ·rename_i x name y
  dsimp only at y;subst y
  split at e
  ·rename_i t b off hx
   split at e
   ·rename_i cs hb
    split at e
    ·rename_i r hr0
     replace e:=XV e;obtain⟨e1,e⟩:=e
     split at e
     ·rename_i vs' hv;cases e;exact⟨D.1,YU.methV ho hx D.2.1 D.2.2.1 D.2.2.2 hb hr0 (ok.en e1) (Uh (λ_ _ h=>h) hv)⟩
     cases e
    cases e
   cases e
  cases e
 cases e
def QjO {o:Oper}{σ σ':St}{φ φ':Prop}{d f:Nat}{vs:L_ V}{M N:L_ (Nat×Nat)}{dead:L_ Nat}{ms:L_ Mode}{outs:H_}{r:V}(hE:YU P C o σ f vs)(hd:o.dst=some d)(hn:B_ d C)(hpg:C.pg P)
  (e:cmV P σ φ d f vs M N dead ms outs r=some (σ',φ')) (hφ:φ'):φ/\Qf P C o σ σ':=by
 unfold cmV at e
 replace e:=XV e;obtain⟨e1,e⟩:=e
 simp only[QL]at e1
 obtain⟨⟨D,h2⟩,h3⟩:=e1
 have h2:=Dh.1 h2
 have h3:=Dh.1 h3
 have y:FY M=true/\FY N=true:=by
  simp only[DK,QL]at D
  exact⟨D.1.1.1,D.1.1.2⟩
 have mM:∀a b,Gd M a=some b->look M b=some a:=λa b h=>KE y.1 (CP h) h2
 have mN:∀a b,Gd N a=some b->look N b=some a:=λa b h=>KE y.2 (CP h) h3
 split at e
 ·rename_i us hus
  split at e
  ·rename_i hsC hC
   split at e
   ·rename_i hsN hN
    split at e
    ·rename_i r' hr
     cases e
     exact⟨hφ.1,Qf.callM (g:=false) hE hd hn hpg D h2 (IP mM hus) (Gh mM hC) hφ.2 (Gh mN hN) (Md mN hr)⟩
    cases e
   cases e
  cases e
 cases e
def QkP {l:S_}:∀{y:L_ Nat} {r:S_},Gg l y=some r->HI l r:=by
 intro y
 induction y with
 | nil=>intro r h;cases h;trivial
 | cons t y ih=>
  intro r h
  rw[Gg]at h
  split at h
  ·rename_i v hv
   split at h
   ·rename_i r' D;cases h;exact⟨hv,ih D⟩
   cases h
  cases h
def QkQ {l:H_}:∀{y:L_ Nat} {r:H_},Gg l y=some r->UD l r:=by
 intro y
 induction y with
 | nil=>intro r h;cases h;trivial
 | cons t y ih=>
  intro r h
  rw[Gg]at h
  split at h
  ·rename_i v hv
   split at h
   ·rename_i r' D;cases h;exact⟨hv,ih D⟩
   cases h
  cases h
def RR.thawN {β:Nat}(hβ:β<=C.w0.heap.size)(hr:RR C φ σ a w){b n z:Nat}{rs us:L_ (L_ V)}(hp:Nat.ble 615 b=false)(hb:look σ.hp b=some (.arr z rs)){x:Value}(hrep:QO φ (Xj C φ w) w x (.own b n))(hle:n<=rs.length)(hu:rs.take n=us):
  Xy (Xj C (EP φ b) w) w x (.sln β z us):=by
 subst hu
 rcases hrep.own_inv with⟨rfl,rfl⟩|⟨B,hB,D,rfl⟩
 ·simp only[List.take_zero];exact .sln0 _ _ _ _
 obtain⟨rfl,hrl,hok,cs,E,h1,h2,h3⟩:=hr.block hB hb
 have hnew:C.w0.heap.size<=B.b:=by
  have hb':b<615:=by
   rcases DH b 615 with h | h
   ·exact h
   rw[PV h]at hp;cases hp
  exact hr.new b B _ hB B.self hb'
 have hIb:Xj C (EP φ b) w B.b:=by
  refine⟨(hr.lt b B _ hB B.self).1,λhlt=>by omega,λo B' hB' e=>?_⟩
  obtain⟨h4,h5⟩:=Kn hB'
  exact h4 (hr.inj o b B' B _ h5 hB e B.self)
 have hle2:n*B.z<=B.cap*B.z:=JA _ D
 refine .sln β B.b B.off n B.cap B.z _ cs E (Kj hβ hnew) hIb (by simp;omega) D (λr hr'=>hok r (Ai hr')) h1 (by omega) (λi r hi j v hj=>?_)
 have hi':rs[i]? = some r:=by
  rw[Jy]at hi
  by_cases hin:i<n
  ·rwa[if_pos hin]at hi
  rw[if_neg hin]at hi;simp at hi
 obtain⟨y,hy,hd⟩:=h3 i r hi' j v hj
 have:cs.getD (B.off+(i*B.z+j)) undef=y:=by simp[TV,hy]
 rw[this]
 exact hd.mono λk hk=>⟨hk.of_del,rfl⟩
def RR.thaw (hr:RR C φ σ a w){b n z:Nat}{rs us:L_ (L_ V)}(hp:Nat.ble 615 b=false)(D:look σ.hp b=some (.arr z rs)){x:Value}(h:QO φ (Xj C φ w) w x (.own b n))(y:n<=rs.length)(hu:rs.take n=us):
  QO (EP φ b) (Xj C (EP φ b) w) w x (.sl z us):=.dat (hr.thawN (Nat.zero_le _) hp D h y hu).lo1
def Frz (C:XA)(s:V)(z:Nat)(us:L_ (L_ V)):Prop:=s=.sl z us\/∃β,s=.sln β z us/\β<=C.w0.heap.size
def RR.thawU {s:V}{z:Nat}{us:L_ (L_ V)}(hs:Frz C s z us)(hr:RR C φ σ a w){b n:Nat}{rs:L_ (L_ V)}(hp:Nat.ble 615 b=false)(D:look σ.hp b=some (.arr z rs)){x:Value}(h:QO φ (Xj C φ w) w x (.own b n))(y:n<=rs.length)(hu:rs.take n=us):
  QO (EP φ b) (Xj C (EP φ b) w) w x s:=by
 rcases hs with rfl | ⟨β,rfl,hβ⟩
 ·exact hr.thaw hp D h y hu
 exact .dat (hr.thawN hβ hp D h y hu)
section
variable {b z:Nat}{rs us:L_ (L_ V)}{σ0:St}{s:V}
def RR.frzC (hs:Frz C s z us)(hr:RR C φ σ a w)(hp:Nat.ble 615 b=false)(hb:look σ.hp b=some (.arr z rs)){x:Value}{v:V}(h:QO φ (Xj C φ w) w x v)(D:Qht b rs us v)(y:v.freeC b=true\/∃k,v=.own b k):
  QO (EP φ b) (Xj C (EP φ b) w) w x (v.frzC b s):=by
 rcases y with y | ⟨k,rfl⟩
 ·have:v.frzC b s=v:=by
   unfold V.frzC
   split
   ·rename_i o k
    have:Nat.beq o b=false:=by simpa[V.freeC,V.freeN] using y
    rw[this];rfl
   rfl
  rw[this]
  exact QO.freeC (λo B ho hB=>by rw[Dy ho];exact hB) (λk hk=>⟨hk.of_del,rfl⟩) h y
 have e:Nat.beq b b=true:=Nat.beq_refl b
 simp only[Qht,e,XK]at D
 simp only[V.frzC,e,XK]
 exact RR.thawU hs hr hp hb h D.1 D.2
def Qgr {y:L_ V}(h:ZR b rs us y):∀(j:Nat) v,y[j]? = some v->Qht b rs us v:=by
 induction y with
 | nil=>intro j v D;simp at D
 | cons c y ih=>
  intro j v D
  have h2:ZR b rs us y:=by
   unfold ZR at h
   split at h
   ·rename_i e;cases e
   ·rename_i e;cases e;exact h.2
   rename_i e;cases e;exact h
  cases j with
  | zero=>
   simp at D;subst D
   cases c with
   | own o k=>exact h.1
   | _=>trivial
  | succ j=>exact ih h2 j v (by simpa using D)
end
section
variable {b z:Nat}{rs us:L_ (L_ V)}{σ0:St}{s:V}
def Qhw {v:V}(h:(v.freeC b||v.isOwn b)=true):v.freeC b=true\/∃k,v=.own b k:=by
 rw[KR]at h
 rcases h with h | h
 ·exact .inl h
 unfold V.isOwn at h
 split at h
 ·rename_i o k;rw[YE h];exact .inr ⟨k,rfl⟩
 cases h
def RR.frzV (hz:Frz C s z us)(hr:RR C φ σ0 a w)(hp:Nat.ble 615 b=false)(hb:look σ0.hp b=some (.arr z rs)){x:Value}{v:V}(h:QO φ (Xj C φ w) w x v)(hq:QkN b rs us v)(hf:v.frzB b=true):
  QO (EP φ b) (Xj C (EP φ b) w) w x (v.frz b s):=by
 unfold V.frz
 unfold QkN at hq
 unfold V.frzB at hf
 split at hq
 ·rename_i cs
  obtain⟨xs,rfl,hs,hc⟩:=h.agg_inv
  refine .agg xs _ (by simpa using hs) λj y u hy hu=>?_
  rw[Yb]at hu
  obtain⟨c,D,rfl⟩:=XZ.1 hu
  dsimp only at hf
  rw[XE]at hf
  exact RR.frzC hz hr hp hb (hc j y c hy D) (Qgr hq j c D) (Qhw (hf c (XU D)))
 rename_i hne
 have hf':(v.freeC b||v.isOwn b)=true:=by
  split at hf
  ·exact absurd rfl (hne _)
  exact hf
 exact RR.frzC hz hr hp hb h hq (Qhw hf')
def Qi1 (hs:Frz C s z us)(hr:RR C φ σ0 a w)(hp:Nat.ble 615 b=false)(hb:look σ0.hp b=some (.arr z rs)):∀{D:L_ Nat} {σ σ':St} {ψ ψ':Prop},Qdp b s rs us σ0 D σ ψ=some (σ',ψ')->ψ'->ψ/\(RR C (EP φ b) σ a w->RR C (EP φ b) σ' a w):=by
 intro D
 induction D with
 | nil=>intro σ σ' ψ ψ' h h';cases h;exact⟨h',id⟩
 | cons t D ih=>
  intro σ σ' ψ ψ' h h'
  rw[Qdp]at h
  split at h
  ·rename_i v hv
   replace h:=XV h;obtain⟨h0,h⟩:=h
   obtain⟨⟨h1,h2⟩,h3⟩:=ih h h'
   refine⟨h1,λk=>h3 ?_⟩
   obtain⟨x,hx,y⟩:=hr.frame t v hv
   exact k.say hx (RR.frzV hs hr hp hb y h2 h0)
  cases h
def Qi2 (hs:Frz C s z us)(hr:RR C φ σ0 a w)(hp:Nat.ble 615 b=false)(hb:look σ0.hp b=some (.arr z rs)):∀{os:L_ Nat} {σ σ':St} {ψ ψ':Prop},Qhu b s rs us σ0 os σ ψ=some (σ',ψ')->ψ'->ψ/\(RR C (EP φ b) σ a w->(∀p cs ob,look σ0.hp p=some (.var cs)->look σ.hp p=some ob->¬ob.Nil)->RR C (EP φ b) σ' a w):=by
 intro os
 induction os with
 | nil=>intro σ σ' ψ ψ' h h';cases h;exact⟨h',λk _=>k⟩
 | cons p ps ih=>
  intro σ σ' ψ ψ' h h'
  rw[Qhu]at h
  split at h
  ·rename_i cs hcs
   replace h:=XV h;obtain⟨h0,h⟩:=h
   simp only[QL,Wy]at h0
   obtain⟨⟨g1,g2⟩,g3⟩:=h0
   obtain⟨⟨h1,h2⟩,h3⟩:=ih h h'
   refine⟨h1,λk hv=>h3 ?_ ?_⟩
   ·have hne:p≠b:=λe=>by subst e;rw[Nat.beq_refl]at g1;cases g1
    obtain⟨ob,hob⟩:=Option.isSome_iff_exists.1 g3
    refine k.sayOb hob (λB hB _=>?_) (.inr (hv p cs ob hcs hob))
    obtain⟨_,D⟩:=Kn hB
    rcases hr.heap p _ hcs with⟨B',y,hrep⟩|⟨hn,_⟩
    ·rw[D]at y;cases y
     obtain⟨xs,E,e1,e2,e0,e3⟩:=hrep
     refine⟨xs,E,e1,by simpa using e2,e0,λj x v hx hv'=>?_⟩
     rw[Yb]at hv'
     obtain⟨c,hcj,rfl⟩:=XZ.1 hv'
     rw[XE]at g2
     exact RR.frzC hs hr hp hb (e3 j x c hx hcj) (Qgr h2 j c hcj) (Qhw (g2 c (XU hcj)))
    rw[hn]at D;cases D
   intro p' cs' ob' e1 e2 e3
   by_cases e:p=p'
   ·subst e;rw[St.look_set_same]at e2;cases e2;exact e3.elim
   rw[St.look_set_other _ _ e]at e2;exact hv p' cs' ob' e1 e2 e3
  cases h
end
def R.frz {b z:Nat}{rs us:L_ (L_ V)}{s:V}(hs:Frz C s z us){σ σ1 σ2:St}{y os:L_ Nat}{φ1 φ2:Prop}(hp:Nat.ble 615 b=false)(hb:look σ.hp b=some (.arr z rs))(h1:Qdp b s rs us σ y (σ.kill b) True=some (σ1,φ1))(h2:Qhu b s rs us σ os σ1 φ1=some (σ2,φ2))(hφ:φ2)
  {a:Act} {w:World} (hR:R C σ a w):R C σ2 a w:=by
 obtain⟨φ,D⟩:=hR
 obtain⟨e1,e2⟩:=Qi2 hs D hp hb h2 hφ
 obtain⟨_,e3⟩:=Qi1 hs D hp hb h1 e1
 refine⟨_,e2 (e3 (D.kill b)) λp cs ob g1 g2 g3=>?_⟩
 have key:∀{y:L_ Nat} {σ' σ'':St} {ψ ψ':Prop},Qdp b s rs us σ y σ' ψ=some (σ'',ψ')->σ''.hp=σ'.hp:=by
  intro y
  induction y with
  | nil=>intro σ' σ'' ψ ψ' h;cases h;rfl
  | cons t y ih=>
   intro σ' σ'' ψ ψ' h
   rw[Qdp]at h
   split at h
   ·replace h:=XV h;obtain⟨_,h⟩:=h
    rw[ih h];rfl
   cases h
 rw[key h1]at g2
 obtain⟨_,ob',h5,h6⟩:=KO _ _ _ g2
 rw[g1]at h5;cases h5
 subst h6;exact g3.elim
def R.adoptO {σ:St}{p i b z:Nat}{cs:L_ V}(y:Nat.beq p b=false)(hp:look σ.hp p=some (.var cs))(hi:cs[i]? = some (.lit (.slice none 0 0)))(hlt:b<617)(hb:look σ.hp b=none){a:Act}{w:World}(hR:R C σ a w):
  R C ((σ.set b (.arr z [])).set p (.var (cs.set i (.own b 0)))) a w:=by
 obtain⟨φ,hr⟩:=hR
 have hne:b≠p:=λe=>by subst e;rw[Nat.beq_refl]at y;cases y
 have h1:=hr.setNil (z:=z) hlt hb
 have hp':look (σ.set b (.arr z [])).hp p=some (.var cs):=by rw[St.look_set_other _ _ hne];exact hp
 refine⟨φ,h1.sayOb hp' (λB hB D=>?_) (.inr λe=>e.elim)⟩
 obtain⟨xs,E,e1,e2,e0,e3⟩:=D
 refine⟨xs,E,e1,by simpa using e2,e0,λj x v hx h=>?_⟩
 rw[List.getElem?_set]at h
 split at h
 ·rename_i hij;subst hij
  split at h
  ·cases h
   have:=e3 i x _ hx hi
   rw[this.lit_inv];exact .own0 b
  cases h
 exact e3 j x v hx h
def Qi3 {d:Ak}{pt:Pt}{ks:L_ Fr}{σ:St}{φ:Prop}{c:Cfg}(ok:WT P T)(hN:Jq P C n)(e:QkO P C T n d pt ks σ φ=some c):QiY P C Q pt ks σ φ c:=by
 have hn:=hN.n
 unfold QkO at e
 split at e
 ·split at e
  ·rename_i hw
   split at e
   ·rename_i hs;cases e;exact λh=>let ⟨a,b⟩:=Qbn ok hN hs h;⟨a,λk=>AL.want hw b k⟩
   cases e
  cases e
 ·split at e
  ·rename_i hw
   split at e
   ·rename_i hs;cases e;exact λh=>let ⟨a,b⟩:=Qbn ok hN hs h;⟨a,λk=>AL.want hw b k⟩
   cases e
  cases e
 ·split at e
  ·rename_i hw
   split at e
   ·rename_i hd
    split at e
    ·rename_i ho
     split at e
     ·rename_i hp
      split at e
      ·rename_i hv
       split at e
       ·rename_i hs;cases e;exact λh=>let ⟨a,b⟩:=Qhv ok ho hd hp hv hs h;⟨a,λk=>AL.want hw b k⟩
       cases e
      cases e
     cases e
    cases e
   cases e
  cases e
 ·split at e
  ·rename_i hw
   split at e
   ·rename_i hd
    split at e
    ·rename_i cl ho
     obtain⟨ce,ags,ts⟩:=cl
     split at e
     ·rename_i hce
      dsimp only at hce e;subst hce
      split at e
      ·rename_i x y hxy
       split at e
       ·rename_i Tx Ty hT
        split at e
        ·rename_i p hp
         split at e
         ·rename_i v hv
          split at e
          ·rename_i hs
           have ea:ags=#[x,y]:=by rw[<-Qbc (xs:=ags),hxy]
           have et:ts=#[Tx,Ty]:=by rw[<-Qbc (xs:=ts),hT]
           subst ea;subst et
           cases e;exact λh=>let ⟨a,b⟩:=QiZ ok hN ho hd hp hv hs h;⟨a,λk=>AL.want hw b k⟩
          cases e
         cases e
        cases e
       cases e
      cases e
     cases e
    cases e
   cases e
  cases e
 ·split at e
  ·rename_i hw
   cases e;exact λh=>⟨h.1,λk=>AL.want hw h.2 k⟩
  cases e
 ·split at e
  ·rename_i hw
   split at e
   ·rename_i d hd
    replace e:=XV e;obtain⟨e1,e⟩:=e
    rw[<-hn]at e1
    split at e
    ·rename_i cl ho
     split at e
     ·rename_i f vs φ1 he
      split at e
      ·rename_i hs
       cases e
       refine λh=>?_
       have h0:φ1:=by
        have hs':=hs
        unfold cmV at hs'
        replace hs':=(XV hs').2
        repeat (split at hs'<;>first | (cases hs';exact h.1) | skip)
        all_goals cases hs'
       obtain⟨a,b⟩:=Qi0 (C:=C) ok ho he h0
       obtain⟨_,b'⟩:=QjO b hd e1 hN.g hs h
       exact⟨a,λk=>AL.want hw b' k⟩
      cases e
     cases e
    cases e
   cases e
  cases e
 ·split at e
  ·rename_i hc
   split at e
   ·cases e;exact λh=>⟨h.1,λk=>Ys.condT hc h.2 k⟩
   cases e;exact λh=>⟨h.1,λk=>Ys.condF hc h.2 k⟩
  cases e
 ·split at e
  ·rename_i u hu;cases e;exact λh=>⟨h.1,AK.weaken λa w=>R.say ⟨u,hu,h.2⟩⟩
  cases e
 ·split at e
  ·rename_i u hu;cases e;exact λh=>⟨h.1,AK.weaken λa w=>R.sayO ⟨u,hu,h.2⟩⟩
  cases e
 ·split at e
  ·rename_i ht
   split at e
   ·rename_i hb
    cases hbl:Nat.ble 617 _ with
    | true=>rw[hbl]at e;cases e
    | false=>rw[hbl]at e;cases e;exact λh=>⟨h,AK.weaken λa w D=>D.adopt (Ab (by rw[hbl];rfl)) ht hb⟩
   cases e
  cases e
 ·split at e
  ·rename_i v hv;cases e;exact λh=>⟨h,AK.weaken λa w D=>D.denil hv⟩
  cases e
 ·split at e
  ·rename_i v hv;cases e;exact λh=>⟨h,AK.weaken λa w D=>D.denilO hv⟩
  cases e
 ·replace e:=XV e;obtain⟨e1,e⟩:=e
  simp only[QL,Wy,Option.isNone_iff_eq_none]at e1
  cases e;exact λh=>⟨h,AK.weaken λa w D=>D.ren _ _ e1.1.1 e1.1.2 e1.2⟩
 ·cases e;exact λh=>⟨h,AK.weaken λa w D=>D.kill _⟩
 ·split at e
  ·rename_i z rs hb
   replace e:=XV e;obtain⟨e1,e⟩:=e
   rw[Wy]at e1
   split at e
   ·rename_i σ1 φ1 h1
    split at e
    ·rename_i σ2 φ2 h2
     cases e;exact λh=>⟨h.1,AK.weaken λa w D=>R.frz (.inl rfl) e1 hb h1 h2 h.2 D⟩
    cases e
   cases e
  cases e
 ·split at e
  ·rename_i cs hcs
   split at e
   ·rename_i hi
    split at e
    ·rename_i hb
     cases hpb:Nat.beq _ _ with
     | true=>rw[hpb]at e;cases e
     | false=>
      rw[hpb]at e
      cases hbl:Nat.ble 617 _ with
      | true=>rw[hbl]at e;cases e
      | false=>rw[hbl]at e;cases e;exact λh=>⟨h,AK.weaken λa w D=>R.adoptO hpb hcs hi (Ab (by rw[hbl];rfl)) hb D⟩
    cases e
   cases e
  cases e
 ·split at e
  ·rename_i hf
   split at e
   ·rename_i hp
    replace e:=XV e;obtain⟨e1,e⟩:=e
    cases e;exact λh=>⟨h,AK.weaken λa w D=>D.to (QkP hf) (QkQ hp) e1⟩
   cases e
  cases e
 cases e
def Qik (ok:WT P T)(hN:Jq P C n):∀(k:Nat) {pt:Pt} {ks:L_ Fr} {σ:St} {φ:Prop} {c:Cfg},plain P C T n k pt ks σ φ=some c->QiY P C Q pt ks σ φ c:=by
 have hn:=hN.n
 intro k
 induction k with
 | zero=>intro pt ks σ φ c e;cases e;exact λy=>⟨y,id⟩
 | succ k ih=>
  intro pt ks σ φ c e
  unfold plain at e
  split at e
  ·rename_i h;cases h
  ·rename_i k' ops o l _ _ _ h
   cases h
   split at e
   ·rename_i D
    split at e
    ·rename_i hs
     exact λy=>let ⟨a,b⟩:=ih e y;let ⟨a',b'⟩:=Qbn ok hN hs a;⟨a',λk=>AL.want D b' (b k)⟩
    cases e
   ·rename_i D
    split at e
    ·rename_i d hd
     replace e:=XV e;obtain⟨e1,e⟩:=e
     rw[<-hn]at e1
     exact λy=>let ⟨a,b⟩:=ih e y;⟨a,λk=>AL.pass D hd e1 (b k)⟩
    rename_i hd
    exact λy=>let ⟨a,b⟩:=ih e y;⟨a,λk=>AL.pass0 D hd (b k)⟩
   cases e
  rename_i h _
  cases h
  split at e
  ·rename_i hc
   exact λy=>let ⟨a,b⟩:=ih e y;⟨a,λk=>QjM hc (b k)⟩
  cases e
def QkR (ok:WT P T)(D:Jq P C n):∀(ds:L_ Ak) {pt:Pt} {ks:L_ Fr} {σ:St} {φ:Prop} {c:Cfg},go P C T n ds pt ks σ φ=some c->QiY P C Q pt ks σ φ c:=by
 have hn:=D.n
 intro ds
 induction ds with
 | nil=>intro pt ks σ φ c e;cases e;exact λy=>⟨y,id⟩
 | cons d ds ih=>
  intro pt ks σ φ c e
  unfold go at e
  split at e
  ·rename_i h;cases h
  ·rename_i h
   cases h
   split at e
   ·rename_i hp
    exact λy=>let ⟨a,b⟩:=ih e y;let ⟨a',b'⟩:=Qik ok D _ hp a;⟨a',λk=>b' (b k)⟩
   cases e
  rename_i h
  cases h
  split at e
  ·rename_i hp
   exact λy=>let ⟨a,b⟩:=ih e y;let ⟨a',b'⟩:=Qi3 ok D hp a;⟨a',λk=>b' (b k)⟩
  cases e
def AK.go (ok:WT P T)(D:Jq P C n)(ds:L_ Ak){pt y:Pt}{ks h:L_ Fr}{σ σ':St}{φ:Prop}(e:Vm.go P C T n ds pt ks σ True=some ⟨y,h,σ',φ⟩)(hφ:φ)(k:AK P C Q y h σ'):AK P C Q pt ks σ:=
 (QkR ok D ds e hφ).2 k
end
def Xd {α:Type}{l:L_ α}{f:α->L_ V}{j:Int}{x:α}(h:idx l j=some x):0<=j/\(l.map f)[j.toNat]? = some (f x):=⟨(YV h).1,Xz (YV h).2⟩
def Yx {α:Type}{l:L_ α}{j:Int}{x:α}{n:Nat}(h:idx l j=some x)(y:l.length=n):0<=j/\j<(n:Int):=by subst y;exact⟨(YV h).1,QmU h⟩
def VR {a b:Bool}(h:(a&&b)=true):a=true:=(QL _ _▸h).1
def IQ {a b:Bool}(h:(a&&b)=true):b=true:=(QL _ _▸h).2
def Qbp {a b c:Bool}(h:(a&&b&&c)=true):a=true:=VR (VR h)
def Qbq {a b c:Bool}(h:(a&&b&&c)=true):b=true:=IQ (VR h)
def Qbr {a b c:Bool}(h:(a&&b&&c)=true):c=true:=IQ h
def Qmc {α:Type}{l:L_ α}{h d:Nat}(y:h<=l.length):V.own d h=V.own d (l.take h).length:=by rw[KS,ZC y]
def Bd {α β:Type}{us:L_ α}{y:L_ β}{n:Nat}(h:decide (n+y.length<=4294967296)=true)(e:us.length=y.length):decide (n+us.length<=4294967296)=true:=by rw[e];exact h
def Gi {α β:Type}{us:L_ α}{l y:L_ β}(e:us.length=y.length):l.length+us.length=(l++y).length:=by rw[e];simp
def Wr {rs:L_ (L_ V)}{n:Nat}(h:rs.length=n):n<=rs.length/\rs.take n=rs:=by subst h;exact⟨YZ _,Ln⟩
def Ge (a b:Int):Bool:=decide (a<b)
def ltS (a b:ByteArray):Bool:=decide (a.data.toList.map UInt8.toNat<b.data.toList.map UInt8.toNat)
section
variable {P:Program}{C:XA}{T:GL}{Q:Exit->St->Prop}{n:Nat}{ops:Array Oper}{base:St}
def JB.denil {o:Oper}{σ:St}{d:Nat}{v:V}{ob:O_ Ob}{ms:L_ (O_ Nat)}(h:JB P C ops o σ (σ.addF ⟨d,v,ob⟩)):JB P C ops o σ (σ.addF ⟨d,v.denil ms,ob⟩):=by
 intro a w hR K Q hK
 refine h a w hR K Q λD w' ⟨φ,y⟩=>hK D w' ⟨φ,?_⟩
 cases ob with
 | none=>exact RR.putDenil (σ:=σ) y
 | some ob=>exact RR.putDenil (σ:=σ.set d ob) y
def HI.app {fr:S_}:∀{l m:S_},HI fr l->HI fr m->HI fr (l++m):=by
 intro l
 induction l with
 | nil=>intro m _ h;exact h
 | cons p l D=>intro m h y;exact⟨h.1,D h.2 y⟩
def UD.app {hp:H_}:∀{l m:H_},UD hp l->UD hp m->UD hp (l++m):=by
 intro l
 induction l with
 | nil=>intro m _ h;exact h
 | cons p l D=>intro m h y;exact⟨h.1,D h.2 y⟩
def JG.walk {β:Nat}{f:FuncId}{fn:Func}{c:Code}{args:L_ V}{hs:H_}{y:V->H_->Prop}(n:Nat)(hf:P.funcs[f]? = some fn)(hb:fn.body=some c)(hn:fn.ntmps=n)
  (D:(Nat.ble args.length n&&Nat.ble n 617)=true) (h:∀C:XA,Jq P C n->β<=C.w0.heap.size->AK P C (Va P fn.results.toList y) (.c c) [] ⟨LH 0 args,hs⟩):JG β P f args hs y:=by
 rw[QL]at D
 exact JG.enter hf hb hn D.1 D.2 λC h1 _ h2=>h C h1 h2
def JG.walkR {β:Nat}{f:FuncId}{fn:Func}{c:Code}{args:L_ V}{hs:H_}{y:V->H_->Prop}(n:Nat)(hf:P.funcs[f]? = some fn)(hb:fn.body=some c)(hn:fn.ntmps=n)
  (D:(Nat.ble args.length n&&Nat.ble n 617)=true) (h:∀C:XA,Jq P C n->C.rnd=none->β<=C.w0.heap.size->AK P C (Va P fn.results.toList y) (.c c) [] ⟨LH 0 args,hs⟩):JG β P f args hs y:=by
 rw[QL]at D
 exact JG.enter hf hb hn D.1 D.2 h
def QX.walk {f:FuncId}{fn:Func}{c:Code}{args:L_ V}{hs:H_}{y:V->H_->Prop}(n:Nat)(hf:P.funcs[f]? = some fn)(hb:fn.body=some c)(hn:fn.ntmps=n)
  (D:(Nat.ble args.length n&&Nat.ble n 617)=true) (h:∀C:XA,Jq P C n->AK P C (Va P fn.results.toList y) (.c c) [] ⟨LH 0 args,hs⟩):QX P f args hs y:=by
 rw[QL]at D
 exact QX.enter hf hb hn D.1 D.2 λC h1 _=>h C h1
def QX.walkR {f:FuncId}{fn:Func}{c:Code}{args:L_ V}{hs:H_}{y:V->H_->Prop}(n:Nat)(hf:P.funcs[f]? = some fn)(hb:fn.body=some c)(hn:fn.ntmps=n)
  (D:(Nat.ble args.length n&&Nat.ble n 617)=true) (h:∀C:XA,Jq P C n->C.rnd=none->AK P C (Va P fn.results.toList y) (.c c) [] ⟨LH 0 args,hs⟩):QX P f args hs y:=by
 rw[QL]at D
 exact QX.enter hf hb hn D.1 D.2 h
def gives {r:V}{outs y:H_}(h:UD y outs):Gives r outs r y:=⟨rfl,λ_ _ e=>h.look _ _ e⟩
end
def QfD {α:Type}{f:α->L_ V}{l:L_ α}{n:Nat}(h:n=l.length):n<=(l.map f).length/\(l.map f).take n=l.map f:=by
 subst h;exact⟨by simp,UB (by simp)⟩
section
variable {τ ρ π:Type}
def WD (body:τ->π->O_ (τ⊕ρ)):τ->L_ π->O_ (τ⊕ρ)
 | s,[]=>some (.inl s)
 | s,p::l=>(body s p).bind λo=>Sum.elim (λh=>WD body h l) (λr=>some (.inr r)) o
open Classical in
noncomputable def Cw (body:τ->π->O_ (τ⊕ρ))(s:τ):L_ π->O_ (τ⊕ρ)
 | []=>some (.inl s)
 | [p]=>WD body s [p]
 | l=>if ∀h:L_ π,h.Perm l->WD body s h=WD body s l then WD body s l else none
def HK {body:τ->π->O_ (τ⊕ρ)}{s:τ}{l:L_ π}{o:τ⊕ρ}:Cw body s l=some o↔(∀y:L_ π,y.Perm l->WD body s y=WD body s l)/\WD body s l=some o:=by
 unfold Cw
 split
 ·exact⟨λh=>⟨λy D=>by rw[D.eq_nil],h⟩,λh=>h.2⟩
 ·exact⟨λh=>⟨λy D=>by rw[List.perm_singleton.1 D],h⟩,λh=>h.2⟩
 split
 ·rename_i h;exact Iff.intro (λe=>⟨h,e⟩) (λe=>e.2)
 rename_i h;exact Iff.intro (λe=>(by cases e)) (λe=>absurd e.1 h)
def Ve {body:τ->π->O_ (τ⊕ρ)}:∀{l m:L_ π} {s:τ},WD body s (l++m)=(WD body s l).bind λo=>Sum.elim (λh=>WD body h m) (λr=>some (.inr r)) o:=by
 intro l
 induction l with
 | nil=>intro m s;rfl
 | cons p l y=>
  intro m s
  simp only[List.cons_append,WD]
  cases body s p with
  | none=>rfl
  | some o=>
   cases o with
   | inl h=>exact y
   | inr r=>rfl
end
def YG {π:Type}(L:L_ (Nat×π))(h:Array Nat):L_ (Nat×π):=L.filter λq=>!h.contains q.1
def ZS {π:Type}{L:L_ (Nat×π)}(hn:(L.map (·.1)).Nodup){D:Array Nat}{q:Nat×π}(hq:q∈YG L D):(YG L D).Perm (q::YG L (D.push q.1)):=by
 have key:∀(l:L_ (Nat×π)),(l.map (·.1)).Nodup->∀p:Nat×π->Bool,q∈l->p q=true->(l.filter p).Perm (q::l.filter λe=>p e&&!(e.1==q.1)):=by
  intro l
  induction l with
  | nil=>intro _ p h;simp at h
  | cons y l ih=>
   intro hn p hx hp
   rw[GK,Ft]at hn
   rcases XQ.1 hx with rfl | hx
   ·have h1:l.filter (λe=>p e&&!(e.1==q.1))=l.filter p:=by
     apply List.filter_congr
     intro e he
     have:e.1≠q.1:=λh=>hn.1 (by rw[<-h];exact List.mem_map_of_mem (f:=λq:Nat×π=>q.1) he)
     simp[this]
    simp[Ah,hp,h1]
   have hne:y.1≠q.1:=λh=>hn.1 (by rw[h];exact List.mem_map_of_mem (f:=λq:Nat×π=>q.1) hx)
   have h2:=ih hn.2 p hx hp
   by_cases hy:p y=true
   ·have e1:(y::l).filter p=y::l.filter p:=by simp[Ah,hy]
    have e2:((y::l).filter λe=>p e&&!(e.1==q.1))=y::l.filter λe=>p e&&!(e.1==q.1):=by simp[Ah,hy,hne]
    rw[e1,e2]
    exact(List.Perm.cons y h2).trans (List.Perm.swap _ _ _)
   have e1:(y::l).filter p=l.filter p:=by simp[Ah,hy]
   have e2:((y::l).filter λe=>p e&&!(e.1==q.1))=l.filter λe=>p e&&!(e.1==q.1):=by simp[Ah,hy]
   rw[e1,e2];exact h2
 have e2:YG L (D.push q.1)=L.filter λe=>(!D.contains e.1)&&!(e.1==q.1):=by
  unfold YG
  apply List.filter_congr
  intro e _
  rw[Zw]
  simp[Array.mem_push]
 rw[e2]
 unfold YG at hq ⊢
 rw[Fq]at hq
 exact key L hn _ hq.1 hq.2
def Qi4 {α:Type}:∀{l m:L_ α},l.Nodup->(∀x∈l,x∈m)->m.length<=l.length->l.Perm m:=by
 classical
 intro l
 induction l with
 | nil=>intro m _ _ h;have:m=[]:=Mu.1 (Nat.le_zero.1 h);subst this;exact .nil
 | cons x l ih=>
  intro m D hs hl
  rw[Ft]at D
  have hx:=hs x YF
  have hp:=List.perm_cons_erase hx
  refine(List.Perm.cons x (ih D.2 (λy hy=>?_) ?_)).trans hp.symm
  ·have hne:y≠x:=λe=>D.1 (e▸hy)
   exact(List.mem_erase_of_ne hne).2 (hs y (Jz _ hy))
  have:=hp.length_eq
  simp at this hl
  omega
section
variable {P:Program}{C:XA}{Q:Exit->St->Prop}{σ σ':St}{ks:L_ Fr}{o:Oper}
def AK.weakenE {ι:Type _}{f:ι->St}{pt:Pt}(h:∀a w,R C σ a w->∃i,R C (f i) a w)(k:∀i,AK P C Q pt ks (f i)):AK P C Q pt ks σ:=by
 cases pt with
 | c c=>exact λa w y=>let ⟨i,hi⟩:=h a w y;k i a w hi
 | o ops l=>exact λa w y=>let ⟨i,hi⟩:=h a w y;k i a w hi
 | x e=>exact λa w y=>let ⟨i,hi⟩:=h a w y;k i a w hi
def CZ {κ α:Type}(e:κ->V)(f:α->V)(L:L_ (Nat×(κ×α))):L_ (Nat×(V×V)):=L.map λq=>(q.1,(e q.2.1,f q.2.2))
def AK.openMap {κ α:Type}[DecidableEq κ]{K:TypeId}{e:κ->V}{val:κ->Value}{f:α->V}{lt:L_ (κ×α)}{b:Nat}{pt:Pt}(hk:Eu P K e val)(hb:look σ.hp b=some (.map (QG e f lt)))
  (h:∀bm D (L:L_ (Nat×(κ×α))),(L.map (·.1)).Nodup->(L.map Prod.snd).Perm lt->AK P C Q pt ks (σ.set b (.mapX bm D (CZ e f L) (QG e f lt)))):AK P C Q pt ks σ:=by
 have key:∀a w,R C σ a w->∃i:{ i:Nat×Nat×L_ (Nat×(κ×α)) // (i.2.2.map (·.1)).Nodup/\(i.2.2.map Prod.snd).Perm lt },R C (σ.set b (.mapX i.1.1 i.1.2.1 (CZ e f i.1.2.2) (QG e f lt))) a w:=by
  intro a w ⟨φ,hr⟩
  rcases hr.heap b _ hb with⟨B,hB,hrep⟩|⟨_,h2⟩
  ·obtain⟨es,D,h1,h2,h3,h4,h5,h6⟩:=hrep
   have hL:∀l:L_ MapEntry,(∀x∈l,x∈es.toList)->∃L:L_ (MapEntry×(κ×α)),L.map Prod.fst=l/\∀q∈L,q.2∈lt/\Xy (Xj C φ w) w q.1.key (e q.2.1)/\Xy (Xj C φ w) w q.1.val (f q.2.2):=by
    intro l
    induction l with
    | nil=>intro _;exact⟨[],rfl,λq hq=>by simp at hq⟩
    | cons x l ih=>
     intro hx
     obtain⟨L,e1,e2⟩:=ih λy hy=>hx y (Jz _ hy)
     obtain⟨p,hp,a1,a2⟩:=h5 x (hx x YF)
     obtain⟨q,hq,rfl⟩:=Yl.1 hp
     exact⟨(x,q)::L,by rw[GK,e1],λy hy=>by
      rcases XQ.1 hy with rfl | hy
      ·exact⟨hq,a1,a2⟩
      exact e2 y hy⟩
   obtain⟨L,e1,e2⟩:=hL es.toList λ_ h=>h
   have hn:=(Mz hk.einj).1 h3
   have hborn:(L.map (·.1.born)).Nodup:=by
    have:L.map (·.1.born)=es.toList.map (·.born):=by rw[<-e1,OB];rfl
    rw[this];exact h2.2.1
   have hkeys:(L.map λq=>q.2.1).Nodup:=by
    have h7:(L.map λq=>q.1.key).Nodup:=by
     have:(L.map λq=>q.1.key)=es.toList.map (·.key):=by rw[<-e1,OB];rfl
     rw[this];exact h2.2.2
    have h8:(L.map λq=>q.1.key)=(L.map λq=>q.2.1).map val:=by
     rw[OB]
     apply OA
     intro q hq
     exact hk.inv _ _ _ _ (e2 q hq).2.1
    rw[h8]at h7
    exact(PU.1 h7).imp λhab e'=>hab (by rw[e'])
   have hperm:(L.map Prod.snd).Perm lt:=by
    have hnd:(L.map Prod.snd).Nodup:=by
     have:(L.map λq=>q.2.1)=(L.map Prod.snd).map Prod.fst:=by rw[OB];rfl
     rw[this]at hkeys
     exact(PU.1 hkeys).imp λhab e'=>hab (by rw[e'])
    have hsub:∀q∈L.map Prod.snd,q∈lt:=λq hq=>by
     obtain⟨y,hy,rfl⟩:=Yl.1 hq
     exact(e2 y hy).1
    have hlen:lt.length<=(L.map Prod.snd).length:=by
     have:(L.map Prod.fst).length=es.toList.length:=by rw[e1]
     simp[QG]at h4 this ⊢
     omega
    have hltnd:lt.Nodup:=(PU.1 hn).imp λhab e'=>hab (by rw[e'])
    exact Qi4 hnd hsub hlen
   have hes:es=(L.map Prod.fst).toArray:=by rw[e1]
   have hfst:(L.map λq=>(q.1,(e q.2.1,f q.2.2))).map Prod.fst=L.map Prod.fst:=by simp
   refine⟨⟨(B.b,D,L.map λq=>(q.1.born,q.2)),by show((L.map _).map _).Nodup;rw[OB];exact hborn,by show((L.map _).map _).Perm _;rw[OB];exact hperm⟩,φ,?_⟩
   refine hr.say' hb (λB' hB' _=>?_) (λe'=>e'.elim)
   rw[hB]at hB';cases hB'
   refine⟨rfl,L.map λq=>(q.1,(e q.2.1,f q.2.2)),by simp[CZ],by rw[h1,hfst,hes],by rw[hfst,<-hes];exact h2,h3,?_,λq hq=>?_⟩
   ·have:(L.map λq=>(q.1,(e q.2.1,f q.2.2))).map Prod.snd=QG e f (L.map Prod.snd):=by simp[QG]
    rw[this];exact hperm.map _
   obtain⟨q',hq',rfl⟩:=Yl.1 hq
   exact(e2 q' hq').2
  exact h2.elim
 exact AK.weakenE key λi=>h _ _ _ i.2.1 i.2.2
def R.closeMap {b bm y:Nat}{L:L_ (Nat×(V×V))}{l:L_ (V×V)}(hb:look σ.hp b=some (.mapX bm y L l)){a:Act}{w:World}(h:R C σ a w):R C (σ.set b (.map l)) a w:=by
 obtain⟨φ,hr⟩:=h
 refine⟨φ,hr.say' hb (λB hB hrep=>?_) (λe'=>e'.elim)⟩
 obtain⟨h1,M,rfl,h2,h3,h4,h5,h6⟩:=hrep
 refine⟨(M.map Prod.fst).toArray,y,h2,h3,h4,by have:=h5.length_eq;simpa using this,λx hx=>?_,λp hp=>?_⟩
 ·obtain⟨q,D,rfl⟩:=Yl.1 (by simpa using hx:x∈M.map Prod.fst)
  exact⟨q.2,h5.mem_iff.1 (List.mem_map_of_mem D),(h6 q D).1,(h6 q D).2⟩
 obtain⟨q,D,rfl⟩:=Yl.1 (h5.mem_iff.2 hp)
 exact⟨q.1,by simpa using (⟨q.2.1,q.2.2,D⟩:∃a b,(q.1,a,b)∈M),(h6 q D).1,(h6 q D).2⟩
def AK.closeMap {b D y:Nat}{L:L_ (Nat×(V×V))}{l:L_ (V×V)}{pt:Pt}(hb:look σ.hp b=some (.mapX D y L l))(k:AK P C Q pt ks (σ.set b (.map l))):AK P C Q pt ks σ:=AK.weaken (λ_ _ h=>R.closeMap hb h) k
def Qf.range {T d b bm y K E:Nat}{x:Operand}{L:L_ (Nat×(V×V))}{l:L_ (V×V)}(ho:o.op=.range T x)(hd:o.dst=some d)(hn:B_ d C)(hx:σ.opd x=some (.map b))(hb:look σ.hp b=some (.mapX bm y L l))
  (hT:LJ P T=some (K,E)) (hf:look σ.hp d=none):Qf P C o σ ((σ.set d (.itr bm y #[] none)).put d (.loc d 0 0)):=by
 refine Qf.val λφ a w hr=>?_
 obtain⟨B,hB,D⟩:=(hr.opd hx).map_inv
 obtain⟨rfl,M,rfl,h2,_⟩:=hr.block hB hb
 refine⟨.pointer (some ⟨w.heap.size,0,none⟩),w.alloc (.mapIter (some B.b) y #[] y),ext φ d ⟨w.heap.size,1,0,[],0⟩,?_,?_⟩
 ·simp only[execOp,ho,D,Xf,run_range_map w T K E B.b _ y (AD hT) h2,Xl,Xx]
 rw[hd]
 refine(hr.alloc (cap:=1) (z:=0) hf (C.slot hn) (ob:=.itr B.b y #[] none) (obj:=.mapIter (some B.b) y #[] y) ⟨heap_alloc_new w _,rfl,λx h=>by cases h⟩).put (XP hn) ?_
 exact .loc d 0 0 ⟨w.heap.size,1,0,[],0⟩ (XD _ _ _)
def Qf.range0 {T d K E:Nat}{x:Operand}(ho:o.op=.range T x)(hd:o.dst=some d)(y:B_ d C)(hx:σ.opd x=some (.lit (.map none)))(hT:LJ P T=some (K,E))(hf:look σ.hp d=none):
  Qf P C o σ ((σ.set d .itr0).put d (.loc d 0 0)):=by
 refine Qf.val λφ a w D=>?_
 have h:=(D.opd hx).lit_inv
 refine⟨.pointer (some ⟨w.heap.size,0,none⟩),w.alloc (.mapIter none 0 #[] 0),ext φ d ⟨w.heap.size,1,0,[],0⟩,?_,?_⟩
 ·simp only[execOp,ho,h,Xf,run_range_nilMap w T K E (AD hT),Xl,Xx]
 rw[hd]
 refine(D.alloc (cap:=1) (z:=0) hf (C.slot y) (ob:=.itr0) (obj:=.mapIter none 0 #[] 0) ⟨#[],0,heap_alloc_new w _,rfl⟩).put (XP y) ?_
 exact .loc d 0 0 ⟨w.heap.size,1,0,[],0⟩ (XD _ _ _)
def Qf.next0 {d b:Nat}{x:Operand}(ho:o.op=.next x false)(hd:o.dst=some d)(hn:B_ d C)(y:σ.opd x=some (.loc b 0 0))(hb:look σ.hp b=some .itr0):Qf P C o σ (σ.put d (.tup [.b false])):=by
 refine Qf.val λφ a w D=>?_
 obtain⟨B,hB,h⟩:=(D.opd y).loc_inv
 obtain⟨s,c,h1,h0⟩:=D.block hB hb
 refine⟨.tuple #[.bool false],w,φ,?_,?_⟩
 ·simp only[Cr,OD,h0]at h
  simp only[execOp,ho,h,Xf]
  have:(Instr.next (.pointer (some ⟨B.b,0,none⟩)) false o.type).run P w=.ok (.tuple #[.bool false]) w:=by
   simp only[Instr.next,getObj,Xf,Sem.run,h1,Result.andThen]
   rfl
  rw[this];rfl
 rw[hd]
 refine D.put (XP hn) (.tup _ _ rfl λj x v y hv=>?_)
 cases j with
 | zero=>simp at y hv;subst y;subst hv;exact .dat (.b _)
 | succ j=>simp at y
def Qf.entry {d b m bm h:Nat}{x:Operand}{L:L_ (Nat×(V×V))}{l:L_ (V×V)}{seen:Array Nat}{q:Nat×(V×V)}(ho:o.op=.entry x)(hd:o.dst=some d)(hn:B_ d C)(y:σ.opd x=some (.loc b 0 0))
  (hb:look σ.hp b=some (.itr bm h seen (some q.1))) (hm:look σ.hp m=some (.mapX bm h L l)) (hq:q∈L):Qf P C o σ (σ.put d (.tup [q.2.1,q.2.2])):=by
 refine Qf.same hd hn λφ a w hr=>?_
 obtain⟨B,hB,D⟩:=(hr.opd y).loc_inv
 obtain⟨h1,h0,h2⟩:=hr.block hB hb
 obtain⟨s0,rfl⟩:=h2 _ rfl
 rcases hr.heap m _ hm with⟨M,hM,g1,N,rfl,g2,g3,g4,g5,g6⟩|⟨_,e'⟩
 ·obtain⟨q,hn,rfl⟩:=Yl.1 hq
  refine⟨.tuple #[q.1.key,q.1.val],?_,.tup _ _ rfl λj x v y hv=>?_⟩
  ·simp only[Cr,OD,h0]at D
   subst g1
   have he:=run_entry_at (P:=P) w B.b M.b h s0 _ h q.1 h1 g2 (by simpa using (⟨q.2.1,q.2.2,hn⟩:∃a b,(q.1,a,b)∈N)) g3.2.1
   simp only[execOp,ho,D,Xf,he,Xl,Xx]
  cases j with
  | zero=>simp at y hv;subst y;subst hv;exact .dat (g6 q hn).1
  | succ j=>
   cases j with
   | zero=>simp at y hv;subst y;subst hv;exact .dat (g6 q hn).2
   | succ j=>simp at y
 exact e'.elim
def Qdd {π:Type}{N:L_ (MapEntry×π)}{h:Array Nat}:(leftOf (N.map Prod.fst).toArray h).toList=(N.filter λq=>!h.contains q.1.born).map Prod.fst:=by
 simp only[leftOf,Array.toList_filter,List.filter_map];rfl
def Qes {π:Type}{N:L_ (MapEntry×π)}{h:Array Nat}:YG (N.map λq=>(q.1.born,q.2)) h=(N.filter λq=>!h.contains q.1.born).map λq=>(q.1.born,q.2):=by
 simp only[YG,List.filter_map];rfl
def AK.next {d b m bm h:Nat}{x:Operand}{ops:Array Oper}{rest:L_ Oper}{L:L_ (Nat×(V×V))}{l:L_ (V×V)}{D:Array Nat}{cur:O_ Nat}(hg:o.guard=none)(ho:o.op=.next x false)(hd:o.dst=some d)(hn:B_ d C)
  (hx:σ.opd x=some (.loc b 0 0)) (hb:look σ.hp b=some (.itr bm h D cur)) (hm:look σ.hp m=some (.mapX bm h L l)) (hbm:Nat.beq b m=false)
  (hdone:YG L D=[]->AK P C Q (.o ops rest) ks (σ.put d (.tup [.b false])))
  (hpick:∀q∈YG L D,AK P C Q (.o ops rest) ks ((σ.set b (.itr bm h (D.push q.1) (some q.1))).put d (.tup [.b true,.J,.J]))):AK P C Q (.o ops (o::rest)) ks σ:=by
 intro a w ⟨φ,hr⟩
 simp only[wpListIn,Region.wanted,hg,if_true]
 obtain⟨B,hB,hev⟩:=(hr.opd hx).loc_inv
 obtain⟨h1,h0,h2⟩:=hr.block hB hb
 simp only[Cr,OD,h0]at hev
 rcases hr.heap m _ hm with⟨M,hM,g1,N,rfl,g2,g3,g4,g5,g6⟩|⟨_,e'⟩
 ·subst g1
  refine⟨λ_ _=>trivial,?_⟩
  rw[Oper.semAt_eq _ _ _ (by rw[ho];intro c hc;cases hc)]
  have hold:∀y∈(N.map Prod.fst).toArray.toList,y.born<h:=g3.1
  rcases run_next_at (P:=P) w o.type B.b M.b h h D _ h h1 g2 hold (YZ _)with⟨k1,k2⟩|⟨e,k1,w1,k2,k3⟩
  ·simp only[execOp,ho,hev,Xf,k2,Xl,Xx]
   rw[Oper.uponIn_value]
   refine hdone ?_ _ _ ⟨φ,?_⟩
   ·have h3:(leftOf (N.map Prod.fst).toArray D).toList.length=0:=by simpa using k1
    rw[Qdd]at h3
    exact Mu.1 (by simpa[Qes] using h3)
   rw[hd]
   refine hr.put (XP hn) (.tup _ _ rfl λj x v hx hv=>?_)
   cases j with
   | zero=>simp at hx hv;subst hx;subst hv;exact .dat (.b _)
   | succ j=>simp at hx
  simp only[execOp,ho,hev,Xf,k3,Xl,Xx]
  rw[Oper.uponIn_value]
  rw[Qdd]at k1
  obtain⟨q,hq,rfl⟩:=Yl.1 k1
  refine hpick (q.1.born,q.2) (by rw[Qes];exact Yl.2 ⟨q,hq,rfl⟩) _ _ ?_
  have hr1:RR C φ σ a w1:=by
   rcases k2 with rfl | rfl
   ·exact hr
   exact hr.step rfl rfl rfl (YZ _) (λ_ _=>rfl)
  have hheap:w1.heap=w.heap:=by rcases k2 with rfl | rfl<;>rfl
  have hlt:=(hr1.lt b B B.b hB B.self).1
  have h4:RR C φ (σ.set b (.itr M.b h (D.push q.1.born) (some q.1.born))) a (Go.ChangeMaps.setBlock w1 B.b (.mapIter (some M.b) h (D.push q.1.born) h)):=by
   refine hr1.write hB (by rfl) (by rfl) (by rfl) ?_ ?_ ?_
   ·simp[Go.ChangeMaps.setBlock]
   ·intro k hk
    simp only[Go.ChangeMaps.setBlock]
    exact DL _ (λe=>hk e)
   refine⟨?_,h0,λx e=>?_⟩
   ·simp[Go.ChangeMaps.setBlock,TW,hlt]
   cases e;exact⟨D,rfl⟩
  refine⟨φ,?_⟩
  rw[hd]
  refine h4.put (XP hn) (.tup _ _ rfl λj x v hx hv=>?_)
  cases j with
  | zero=>simp at hx hv;subst hx;subst hv;exact .dat (.b _)
  | succ j=>
   cases j with
   | zero=>simp at hx hv;subst hv;exact .dat (.J _)
   | succ j=>
    cases j with
    | zero=>simp at hx hv;subst hv;exact .dat (.J _)
    | succ j=>simp at hx
 exact e'.elim
def Qgs {κ α:Type}{e:κ->V}{f:α->V}{L:L_ (Nat×(κ×α))}{h:Array Nat}:YG (CZ e f L) h=CZ e f (YG L h):=by
 simp only[YG,CZ,List.filter_map];rfl
def AK.nextT {d b m bm y:Nat}{x:Operand}{ops:Array Oper}{rest:L_ Oper}{κ α:Type}{e:κ->V}{f:α->V}{L:L_ (Nat×(κ×α))}{l:L_ (V×V)}{D:Array Nat}{cur:O_ Nat}(hg:o.guard=none)(ho:o.op=.next x false)(hd:o.dst=some d)
  (hn:B_ d C) (hx:σ.opd x=some (.loc b 0 0)) (hb:look σ.hp b=some (.itr bm y D cur)) (hm:look σ.hp m=some (.mapX bm y (CZ e f L) l)) (hbm:Nat.beq b m=false)
  (hdone:YG L D=[]->AK P C Q (.o ops rest) ks (σ.put d (.tup [.b false])))
  (hpick:∀x k v,(x,(k,v))∈YG L D->AK P C Q (.o ops rest) ks ((σ.set b (.itr bm y (D.push x) (some x))).put d (.tup [.b true,.J,.J]))):AK P C Q (.o ops (o::rest)) ks σ:=by
 refine AK.next hg ho hd hn hx hb hm hbm (λh=>hdone ?_) (λq hq=>?_)
 ·rw[Qgs]at h;simpa[CZ] using h
 rw[Qgs]at hq
 obtain⟨q',hq',rfl⟩:=Yl.1 hq
 exact hpick q'.1 q'.2.1 q'.2.2 hq'
def Qf.entryT {d b m bm h:Nat}{x:Operand}{κ α:Type}{e:κ->V}{f:α->V}{L:L_ (Nat×(κ×α))}{l:L_ (V×V)}{D:Array Nat}{y:Nat}{k:κ}{v:α}(ho:o.op=.entry x)(hd:o.dst=some d)(hn:B_ d C)(hx:σ.opd x=some (.loc b 0 0))
  {s0:Array Nat} (hq:(y,(k,v))∈YG L s0) (hb:look σ.hp b=some (.itr bm h D (some y))) (hm:look σ.hp m=some (.mapX bm h (CZ e f L) l)):Qf P C o σ (σ.put d (.tup [e k,f v])):=
 Qf.entry (q:=(y,(e k,f v))) ho hd hn hx hb hm (Yl.2 ⟨(y,(k,v)),(Fq.1 hq).1,rfl⟩)
def AK.loopOnce {c:Code}(h:AK P C Q (.c c) (.cut (λ_=>False)::ks) σ):AK P C Q (.c (.loop c)) ks σ:=by
 intro a w hR
 refine wpIn_loop_rounds 1 ?_
 rw[roundsIn_succ]
 refine wpIn_mono (h a w hR) ?_
 rintro e a' w' ⟨σ',y,D⟩
 cases e<;>first | exact y.elim | exact⟨σ',y,D⟩
def Qni {τ ρ π:Type}(body:τ->π->O_ (τ⊕ρ))(L:L_ (Nat×π))(E:τ->Array Nat->St->Prop)(y:ρ->Exit->St->Prop)(PD:τ->Exit->St->Prop)(s:τ)(h:Array Nat):Exit->St->Prop:=λe σ'=>
 (YG L h=[]/\e≠.normal/\PD s e σ')\/∃q∈YG L h,(∃D,body s q.2=some (.inl D)/\e=.normal/\E D (h.push q.1) σ')\/(∃r,body s q.2=some (.inr r)/\e≠.normal/\y r e σ')
def AK.range {τ ρ π:Type}{body:τ->π->O_ (τ⊕ρ)}{c:Code}{lt:L_ π}{L:L_ (Nat×π)}(E:τ->Array Nat->St->Prop)(Post:ρ->Exit->St->Prop)(PD:τ->Exit->St->Prop){s0:τ}{r:τ⊕ρ}(hn:(L.map (·.1)).Nodup)(hp:(L.map Prod.snd).Perm lt)
  (hr:Cw body s0 lt=some r) (h0:E s0 #[] σ)
  (round:∀s y σ,E s y σ->(∀q∈YG L y,∃o,body s q.2=some o)->AK P C (Qni body L E Post PD s y) (.c c) [] σ)
  (hQ:∀e σ',(Sum.elim (λs=>PD s e σ') (λq=>Post q e σ') r)->AK P C Q (.x e) ks σ'):AK P C Q (.c (.loop c)) ks σ:=by
 obtain⟨hperm,hrun⟩:=HK.1 hr
 have key:∀(k:Nat) (s:τ) (y:Array Nat),(YG L y).length=k->(∃dn,(dn++(YG L y).map Prod.snd).Perm lt/\WD body s0 dn=some (.inl s))->∀σ a w,E s y σ->R C σ a w->
   Code.roundsIn C.F 0 P c (up C λe σ'=>Sum.elim (λs=>PD s e σ') (λq=>Post q e σ') r) (k+1) a w:=by
  intro k
  induction k with
  | zero=>
   rintro s y hk ⟨dn,hd1,hd2⟩ σ a w hE hR
   have hnil:=Mu.1 hk
   rw[roundsIn_succ]
   refine wpIn_mono (round s y σ hE (λq D=>by rw[hnil]at D;cases D) a w hR) ?_
   rintro e a' w' ⟨σ',D,hR'⟩
   rcases D with⟨_,h2,h3⟩|⟨q,D,_⟩
   ·rw[hnil]at hd1
    have:WD body s0 dn=some r:=by rw[<-hrun];exact hperm dn (by simpa using hd1)
    rw[this]at hd2;cases hd2
    cases e<;>first | exact absurd rfl h2 | exact⟨σ',h3,hR'⟩
   rw[hnil]at D;cases D
  | succ k ih=>
   rintro s y hk ⟨dn,hd1,hd2⟩ σ a w hE hR
   rw[roundsIn_succ]
   have hall:∀q∈YG L y,∃o,body s q.2=some o/\∃rest,(dn++q.2::rest).Perm lt/\rest=(YG L (y.push q.1)).map Prod.snd:=λq D=>by
    have h1:=(ZS hn D).map Prod.snd
    have h2:(dn++q.2::(YG L (y.push q.1)).map Prod.snd).Perm lt:=((List.Perm.append_left dn h1).symm).trans hd1
    have h3:WD body s0 (dn++q.2::(YG L (y.push q.1)).map Prod.snd)=some r:=by rw[<-hrun];exact hperm _ h2
    rw[Ve,hd2]at h3
    simp only[Qc,Sum.elim_inl,WD]at h3
    cases hb:body s q.2 with
    | none=>rw[hb]at h3;cases h3
    | some o=>exact⟨o,rfl,_,h2,rfl⟩
   refine wpIn_mono (round s y σ hE (λq D=>let ⟨o,h,_⟩:=hall q D;⟨o,h⟩) a w hR) ?_
   rintro e a' w' ⟨σ',D,hR'⟩
   rcases D with⟨h1,_,_⟩|⟨q,D,⟨s',h1,rfl,h3⟩|⟨r',h1,h2,h3⟩⟩
   ·rw[h1]at hk;cases hk
   ·obtain⟨_,_,rest,h5,h6⟩:=hall q D
    refine ih s' (y.push q.1) ?_ ⟨dn++[q.2],?_,?_⟩ σ' a' w' h3 hR'
    ·have:=(ZS hn D).length_eq;simp at this;omega
    ·rw[De,List.singleton_append,<-h6];exact h5
    rw[Ve,hd2];simp only[Qc,Sum.elim_inl,WD,h1]
   obtain⟨_,_,rest,h5,h6⟩:=hall q D
   have h7:WD body s0 (dn++q.2::rest)=some r:=by rw[<-hrun];exact hperm _ h5
   rw[Ve,hd2]at h7
   simp only[Qc,Sum.elim_inl,WD,h1,Sum.elim_inr]at h7
   cases h7
   cases e<;>first | exact absurd rfl h2 | exact⟨σ',h3,hR'⟩
 intro a w hR
 have hL:YG L #[]=L:=by simp[YG]
 refine wpIn_mono (wpIn_loop_rounds _ (key _ s0 #[] rfl ⟨[],by rw[hL];simpa using hp,rfl⟩ σ a w h0 hR)) ?_
 rintro e a' w' ⟨σ',h1,h2⟩
 exact hQ e σ' h1 a' w' h2
end
structure Yj where
 kills:List Nat
 sets:List (Nat×Ob)
 put:Option (Nat×V)
def St.sets (σ:St):H_->St
 | []=>σ
 | (o,ob)::r=>(σ.sets r).set o ob
def Yj.run (M:Yj)(σ:St):St:=match M.put with
 | none=>(σ.killL M.kills).sets M.sets
 | some (d,v)=>((σ.killL M.kills).sets M.sets).put d v
def Gw (σ B:St):Prop:=(∀t v,look B.fr t=some v->look σ.fr t=some v)/\∀p ob,look B.hp p=some ob->look σ.hp p=some ob
def NM {b:Nat}:∀(l:S_) (t:Nat),look (Ct b l) t=(look l t).map (V.kill b):=by
 intro l
 induction l with
 | nil=>intro t;rfl
 | cons p l h=>
  obtain⟨k,v⟩:=p
  intro t
  by_cases e:k=t
  ·subst e;rw[Ct,QC,QC];rfl
  rw[Ct,QA _ _ e,QA _ _ e];exact h t
def HL {b:Nat}:∀(l:H_) (t:Nat),look (Ek b l) t=if t=b then none else(look l t).map (Ob.kill b):=by
 intro l t
 by_cases h:t=b
 ·rw[if_pos h]
  cases D:look (Ek b l) t with
  | none=>rfl
  | some ob=>obtain⟨y,_⟩:=KO _ _ _ D;exact absurd h y
 rw[if_neg h]
 cases D:look l t with
 | none=>
  cases hk:look (Ek b l) t with
  | none=>rfl
  | some ob=>obtain⟨_,ob',y,_⟩:=KO _ _ _ hk;rw[D]at y;cases y
 | some ob=>exact Uf _ _ _ h D
def Gw.kill {σ B:St}(h:Gw σ B)(b:Nat):Gw (σ.kill b) (B.kill b):=by
 refine⟨λt v D=>?_,λp ob y=>?_⟩
 ·have D:look (Ct b B.fr) t=some v:=D
  show look (Ct b σ.fr) t=some v
  rw[NM]at D ⊢
  obtain⟨u,hu,rfl⟩:=XZ.1 D
  rw[h.1 t u hu];rfl
 have y:look (Ek b B.hp) p=some ob:=y
 show look (Ek b σ.hp) p=some ob
 rw[HL]at y ⊢
 split at y
 ·cases y
 rename_i hne
 rw[if_neg hne]
 obtain⟨u,hu,rfl⟩:=XZ.1 y
 rw[h.2 p u hu];rfl
def Gw.killL : ∀{l:L_ Nat} {σ B:St},Gw σ B->Gw (σ.killL l) (B.killL l):=by
 intro l
 induction l with
 | nil=>intro σ B h;exact h
 | cons b l y=>intro σ B h;exact y (h.kill b)
def Gw.set {σ B:St}(h:Gw σ B)(o:Nat)(ob:Ob):Gw (σ.set o ob) (B.set o ob):=by
 refine⟨h.1,λp u y=>?_⟩
 by_cases e:p=o
 ·subst e;rw[St.look_set_same]at y ⊢;exact y
 rw[St.look_set_other _ _ (Ne.symm e)]at y ⊢;exact h.2 p u y
def Gw.sets : ∀{l:H_} {σ B:St},Gw σ B->Gw (σ.sets l) (B.sets l):=by
 intro l
 induction l with
 | nil=>intro σ B h;exact h
 | cons p l y=>intro σ B h;exact(y h).set p.1 p.2
def Gw.put {σ B:St}(h:Gw σ B)(d:Nat)(v:V):Gw (σ.put d v) (B.put d v):=by
 refine⟨λt u y=>?_,h.2⟩
 have y:look ((d,v)::B.fr) t=some u:=y
 show look ((d,v)::σ.fr) t=some u
 by_cases e:d=t
 ·subst e;rw[QC]at y ⊢;exact y
 rw[QA _ _ e]at y ⊢;exact h.1 t u y
def Gw.run {σ B:St}(h:Gw σ B)(M:Yj):Gw (M.run σ) (M.run B):=by
 unfold Yj.run
 split
 ·exact h.killL.sets
 exact h.killL.sets.put _ _
def Yj.keeps (M:Yj)(t:Nat)(v:V):Bool:=M.kills.all (λb=>v.free b)&&(match M.put with | none=>true | some (d,_)=>!(Nat.beq d t))
def Yj.keepsO (M:Yj)(p:Nat):Bool:=M.kills.all (λb=>!(Nat.beq b p))&&M.sets.all (λq=>!(Nat.beq q.1 p))
def Ob.keep1 (b:Nat):Ob->Bool
 | .var h=>h.all (V.freeC b)
 | .lp _ _ h _=>h.all (V.freeC b)
 | _=>true
def Qi5 : ∀{l:L_ Nat} {σ:St} {t:Nat} {v:V},l.all (λb=>v.free b)=true->look σ.fr t=some v->look (σ.killL l).fr t=some v:=by
 intro l
 induction l with
 | nil=>intro σ t v _ h;exact h
 | cons b l D=>
  intro σ t v y h
  rw[Ox,QL]at y
  refine D y.2 ?_
  show look (Ct b σ.fr) t=some v
  rw[NM,h,DJ,V.kill,y.1];rfl
def QfE : ∀{l:H_} {σ:St},(σ.sets l).fr=σ.fr:=by
 intro l
 induction l with
 | nil=>intro σ;rfl
 | cons p l h=>intro σ;exact h
def Yj.keeps_look {M:Yj}{σ:St}{t:Nat}{v:V}(y:M.keeps t v=true)(h:look σ.fr t=some v):look (M.run σ).fr t=some v:=by
 unfold Yj.keeps at y
 rw[QL]at y
 have h1:look ((σ.killL M.kills).sets M.sets).fr t=some v:=by rw[QfE];exact Qi5 y.1 h
 unfold Yj.run
 split
 ·exact h1
 rename_i d u hp
 rw[hp]at y
 have D:d≠t:=BT y.2
 show look ((d,u)::_) t=some v
 rw[QA _ _ D];exact h1
def QfF : ∀{l:L_ Nat} {σ:St} {p:Nat},look σ.hp p=none->look (σ.killL l).hp p=none:=by
 intro l
 induction l with
 | nil=>intro σ p h;exact h
 | cons b l y=>
  intro σ p h
  refine y ?_
  show look (Ek b σ.hp) p=none
  rw[HL,h];simp
def Qhx : ∀{l:H_} {σ:St} {p:Nat},l.all (λq=>!(Nat.beq q.1 p))=true->look σ.hp p=none->look (σ.sets l).hp p=none:=by
 intro l
 induction l with
 | nil=>intro σ p _ h;exact h
 | cons q l D=>
  intro σ p y h
  rw[Ox,QL]at y
  show look ((σ.sets l).set q.1 q.2).hp p=none
  rw[St.look_set_other _ _ (BT y.1)];exact D y.2 h
def Yj.none_look {M:Yj}{σ:St}{p:Nat}(D:M.sets.all (λq=>!(Nat.beq q.1 p))=true)(h:look σ.hp p=none):look (M.run σ).hp p=none:=by
 have y:look ((σ.killL M.kills).sets M.sets).hp p=none:=Qhx D (QfF h)
 unfold Yj.run
 split<;>exact y
def Ob.kill_keep {ob:Ob}{b:Nat}(h:ob.keep1 b=true):ob.kill b=ob:=by
 cases ob with
 | var y=>
  simp only[Ob.keep1,XE]at h
  simp only[Ob.kill,Ob.var.injEq]
  conv=>rhs;rw[<-List.map_id y]
  apply OA
  intro v D
  simp only[V.killC,h v D,XK,id]
 | lp l K y q=>
  simp only[Ob.keep1,XE]at h
  simp only[Ob.kill,Ob.lp.injEq,true_and,and_true]
  conv=>rhs;rw[<-List.map_id y]
  apply OA
  intro v D
  simp only[V.killC,h v D,XK,id]
 | _=>rfl
def QgM : ∀{l:L_ Nat} {σ:St} {p:Nat} {ob:Ob},l.all (λb=>!(Nat.beq b p))=true->l.all (λb=>ob.keep1 b)=true->look σ.hp p=some ob->look (σ.killL l).hp p=some ob:=by
 intro l
 induction l with
 | nil=>intro σ p ob _ _ h;exact h
 | cons b l D=>
  intro σ p ob y hp h
  rw[Ox,QL]at y hp
  refine D y.2 hp.2 ?_
  show look (Ek b σ.hp) p=some ob
  rw[HL,if_neg (BT y.1).symm,h,DJ,Ob.kill_keep hp.1]
def Qhy : ∀{l:H_} {σ:St} {p:Nat} {ob:Ob},l.all (λq=>!(Nat.beq q.1 p))=true->look σ.hp p=some ob->look (σ.sets l).hp p=some ob:=by
 intro l
 induction l with
 | nil=>intro σ p ob _ h;exact h
 | cons q l D=>
  intro σ p ob y h
  rw[Ox,QL]at y
  show look ((σ.sets l).set q.1 q.2).hp p=some ob
  rw[St.look_set_other _ _ (BT y.1)];exact D y.2 h
def Yj.keepsO_look {M:Yj}{σ:St}{p:Nat}{ob:Ob}(y:M.keepsO p=true)(hp:M.kills.all (λb=>ob.keep1 b)=true)(h:look σ.hp p=some ob):look (M.run σ).hp p=some ob:=by
 unfold Yj.keepsO at y
 rw[QL]at y
 have D:look ((σ.killL M.kills).sets M.sets).hp p=some ob:=Qhy y.2 (QgM y.1 hp h)
 unfold Yj.run
 split<;>exact D
section
variable {P:Program}{C:XA}{Q:Exit->St->Prop}{ops:Array Oper}{σ:St}{ks:L_ Fr}
def QjP (Inv:Array Bool->St->Prop)
  (step:∀y σ i o,y.size=ops.size->Qbh ops y->i∈Region.ready .any ops y->ops[i]? = some o->Inv y σ->∃σ',JB P C ops o σ σ'/\Inv (y.setIfInBounds i true) σ')
  (hord:QfA ops=true) (hend:∀y σ,y.size=ops.size->(∀i,i<ops.size->y[i]? = some true)->Inv y σ->∀a w,R C σ a w->up C Q .normal a w):
  ∀(fuel:Nat) (y:Array Bool) (a:Act) (w:World) (σ:St),((List.range ops.size).filter λi=>!(y[i]? == some true)).length<=fuel->y.size=ops.size->Qbh ops y->Inv y σ->R C σ a w->wpAnyIn C.F 0 P .any ops (up C Q) fuel y a w:=by
 intro fuel
 have allOf:∀{y:Array Bool},y.size=ops.size->Region.ready .any ops y=[]->∀i,i<ops.size->y[i]? = some true:=by
  intro y D hr
  apply Classical.byContradiction
  intro h
  have hex:∃i,i<ops.size/\y[i]? ≠ some true:=by
   apply Classical.byContradiction
   intro h'
   exact h λi hi=>Classical.byContradiction λhn=>h' ⟨i,hi,hn⟩
  obtain⟨k,h1,h2,h3⟩:=Qhi ops.size hex
  have:=Qih hord D h1 h2 h3
  rw[hr]at this;cases this
 induction fuel with
 | zero=>
  intro y a w σ hf D hd hI hR
  have hall:∀i,i<ops.size->y[i]? = some true:=λi hi=>by
   have:=Mu.1 (Nat.le_zero.1 hf)
   rw[List.filter_eq_nil_iff]at this
   simpa using this i (Fs.2 hi)
  refine⟨?_,hend y σ D hall hI a w hR⟩
  rw[List.eq_nil_iff_forall_not_mem]
  intro i hi
  obtain⟨o,ho,hl,_⟩:=(Mc D).1 hi
  rw[hall i (Ud.1 ho).1]at hl;cases hl
 | succ fuel ih=>
  intro y a w σ hf D hd hI hR
  refine⟨λhr=>hend y σ D (allOf D hr) hI a w hR,λi hi=>?_⟩
  obtain⟨o,ho,hl,hdeps⟩:=(Mc D).1 hi
  obtain⟨σ',hos,hI'⟩:=step y σ i o D hd hi ho hI
  have hin:i<y.size:=by rw[D];exact(Ud.1 ho).1
  have next:∀a' w',R C σ' a' w'->wpAnyIn C.F 0 P .any ops (up C Q) fuel (y.setIfInBounds i true) a' w':=λa' w' hR'=>by
   refine ih _ a' w' σ' ?_ (by simpa using D) (hd.set D hi) hI' hR'
   have count:∀(l:L_ Nat),i∈l->(l.filter λj=>!((y.setIfInBounds i true)[j]? == some true)).length+1<=(l.filter λj=>!(y[j]? == some true)).length:=by
    intro l
    have le:∀(l:L_ Nat),(l.filter λj=>!((y.setIfInBounds i true)[j]? == some true)).length<=(l.filter λj=>!(y[j]? == some true)).length:=by
     intro l
     induction l with
     | nil=>simp
     | cons x l ihl=>
      by_cases e:i=x
      ·subst e
       rw[List.filter_cons_of_neg (by simp[TW,hin]),List.filter_cons_of_pos (by rw[hl];simp)]
       simp;omega
      simp only[Ah,Qhf e]
      split
      ·simpa using ihl
      exact ihl
    induction l with
    | nil=>intro h;cases h
    | cons x l ihl=>
     intro hm
     by_cases e:i=x
     ·subst e
      rw[List.filter_cons_of_neg (by simp[TW,hin]),List.filter_cons_of_pos (by rw[hl];simp)]
      have:=le l
      simp;omega
     have hm':i∈l:=by
      rcases XQ.1 hm with h | h
      ·exact absurd h e
      exact h
     have:=ihl hm'
     simp only[Ah,Qhf e]
     split
     ·simpa using this
     exact this
   have:=count (List.range ops.size) (Fs.2 (by rw[<-D];exact hin))
   omega
  unfold wpOpIn
  simp only[ho]
  have:=hos a w hR (wpAnyIn C.F 0 P .any ops (up C Q) fuel (y.setIfInBounds i true)) (up C Q) next
  split
  ·rename_i hw;rw[if_pos hw]at this;exact this
  rename_i hw;rw[if_neg hw]at this;exact⟨λ_ _=>trivial,this⟩
def AK.regionInv {id:Nat}(D:Array Bool->St->Prop)(hmix:P.follows .mixedOrders=true)
  (step:∀y σ i o,y.size=ops.size->Qbh ops y->i∈Region.ready .any ops y->ops[i]? = some o->D y σ->∃σ',JB P C ops o σ σ'/\D (y.setIfInBounds i true) σ')
  (hord:QfA ops=true) (h0:D (Array.replicate ops.size false) σ) (hend:∀y σ',y.size=ops.size->(∀i,i<ops.size->y[i]? = some true)->D y σ'->AK P C Q (.x .normal) ks σ'):AK P C Q (.c (.region id ops true)) ks σ:=by
 intro a w hR
 refine wpIn_region_any hmix ?_
 have hR':R C σ a { w with drawn:=w.drawn+1 }:=by
  obtain⟨φ,hr⟩:=hR
  exact⟨φ,hr.step rfl rfl rfl (YZ _) (λ_ _=>rfl)⟩
 refine QjP D step hord (λy σ' hs hall hI a w hR=>hend y σ' hs hall hI a w hR) ops.size (Array.replicate ops.size false) a _ σ ?_ (by simp) ?_ h0 hR'
 ·exact Kj (Zy _ _) (by simp)
 intro i o _ h
 simp[Array.getElem?_replicate]at h
end
inductive It where
 | add (x:DF) (fl nf:Bool)
 | tn (M:Yj)
def Xu : L_ It->L_ Yj
 | []=>[]
 | .add _ _ _::r=>Xu r
 | .tn M::r=>M::Xu r
def MB (base:St):L_ Yj->St
 | []=>base
 | M::r=>MB (M.run base) r
def Qhd (x:DF)(M:Yj):Bool:=match x.ob with | none=>true | some ob=>M.keepsO x.d&&M.kills.all (λb=>ob.keep1 b)
def Qhe (x:DF)(M:Yj):Bool:=M.keeps x.d x.v&&Qhd x M
def alv (x:DF)(h:Bool)(ms:L_ Yj):Bool:=ms.all (λM=>M.keeps x.d x.v)
def Vf (x:DF)(h:Bool)(ms:L_ Yj):Bool:=ms.all (Qhd x)
def MC (σ:St)(x:DF)(h:Bool)(ms:L_ Yj):Prop:=(alv x h ms=true->look σ.fr x.d=some x.v)/\(Vf x h ms=true->∀ob,x.ob=some ob->look σ.hp x.d=some ob)
def AS (ops:Array Oper):Nat->Nat->Nat->Bool
 | 0,_,_=>false
 | n+1,i,k=>match ops[k]? with
  | some o=>Ix o i||o.after.toList.any λe=>Region.binds .any e&&AS ops n i e.on
  | none=>false
def ZT (its:L_ It)(p:Nat):Bool:=match its[p]? with
 | some (.tn _)=>true
 | _=>false
def QkS (ops:Array Oper)(its:L_ It):Bool:=(List.range its.length).all λi=>(List.range its.length).all λp=>!(ZT its p)||Nat.beq p i ||
 (match its[i]? with | some (.add _ true false)=>true | some _=>bif Nat.ble (p+1) i then AS ops 8 p i else AS ops 8 i p | none=>true)
def RI : L_ It->L_ Nat
 | []=>[]
 | .add x _ _::r=>x.d::RI r
 | .tn _::r=>RI r
def Ha : L_ Yj->L_ Nat
 | []=>[]
 | M::r=>match M.put with
  | some (d,_)=>d::Ha r
  | none=>Ha r
def Qhz : L_ Yj->L_ Nat
 | []=>[]
 | M::r=>M.sets.map Prod.fst++Qhz r
def ZU : L_ It->L_ Nat
 | []=>[]
 | .add x _ _::r=>match x.ob with
  | some _=>x.d::ZU r
  | none=>ZU r
 | .tn _::r=>ZU r
def Hb (ms:L_ Yj):L_ It->Bool
 | []=>true
 | .add x h _::r=>(!h||ms.all (Qhe x))&&Hb ms r
 | .tn _::r=>Hb ms r
def Qbs (ms:L_ Yj)(S:St):Bool:=S.fr.all (λp=>ms.all λM=>M.keeps p.1 p.2)&&S.hp.all (λp=>ms.all λM=>M.keepsO p.1&&M.kills.all (λb=>p.2.keep1 b))
def QhA (base:St)(its:L_ It):Bool:=Bc (RI its)&&(RI its).all (λd=>!(XJ (keys base.fr) d)&&!(XJ (Ha (Xu its)) d)) &&
 (ZU its).all (λd=>!(XJ (keys base.hp) d))
def Qi6 (ops:Array Oper)(its:L_ It):Bool:=(List.range its.length).all λi=>(List.range its.length).all λp=>match its[i]? with
 | some (.add x _ _)=>match its[p]? with
  | some (.tn M)=>x.ob.isNone||!(XJ (M.sets.map Prod.fst) x.d)||AS ops 8 i p
  | _=>true
 | _=>true
section
variable {P:Program}{C:XA}{Q:Exit->St->Prop}{ops:Array Oper}{ks:L_ Fr}{base S:St}{its:L_ It}
def j0 (its:L_ It)(k:Nat):Nat:=(Xu (its.take k)).length
def VS (P:Program)(C:XA)(ops:Array Oper)(base S:St)(its:L_ It)(i:Nat)(o:Oper):It->Prop
 | .add x h D=>match h&&!D with
  | false=>∀σ,Gw σ (MB base ((Xu its).take (j0 its i)))->(∀k y h D,its[k]? = some (.add y h D)->Ix o k=true->MC σ y h (((Xu its).take (j0 its i)).drop (j0 its k)))->(x.ob.isSome=true->look σ.hp x.d=none)->JB P C ops o σ (σ.addF x)
  | true=>∀σ,Gw σ S->(∀k y D,its[k]? = some (.add y true D)->Ix o k=true->ZK σ y)->(x.ob.isSome=true->look σ.hp x.d=none)->JB P C ops o σ (σ.addF x)
 | .tn M=>∀σ,Gw σ (MB base ((Xu its).take (j0 its i)))->(∀k y h D,its[k]? = some (.add y h D)->Ix o k=true->MC σ y h (((Xu its).take (j0 its i)).drop (j0 its k)))->JB P C ops o σ (M.run σ)
def Be {y:Array Bool}(hd:Qbh ops y):∀(n:Nat) {i k:Nat},AS ops n i k=true->y[k]? = some true->y[i]? = some true:=by
 intro n
 induction n with
 | zero=>intro i k h;cases h
 | succ n ih=>
  intro i k h hk
  rw[AS]at h
  split at h
  ·rename_i o ho
   rw[KR]at h
   rcases h with h | h
   ·simp only[Ix,Oy,QL]at h
    obtain⟨e,he,D,hon⟩:=h
    have:=hd k o ho hk e (Qdl.1 he) D
    rwa[YE hon]at this
   simp only[Oy,QL]at h
   obtain⟨e,he,D,hm⟩:=h
   exact ih hm (hd k o ho hk e (Qdl.1 he) D)
  cases h
def Qde {y:Array Bool}(hs:y.size=ops.size)(hd:Qbh ops y){n i k:Nat}(h:AS ops n i k=true)(hk:k∈Region.ready .any ops y):y[i]? = some true:=by
 obtain⟨o,ho,hl,D⟩:=(Mc hs).1 hk
 cases n with
 | zero=>cases h
 | succ n=>
  rw[AS,ho]at h
  dsimp only at h
  rw[KR]at h
  rcases h with h | h
  ·simp only[Ix,Oy,QL]at h
   obtain⟨e,he,hb,hon⟩:=h
   have:=D e (Qdl.1 he) hb
   rwa[YE hon]at this
  simp only[Oy,QL]at h
  obtain⟨e,he,hb,hm⟩:=h
  exact Be hd n hm (D e (Qdl.1 he) hb)
def Ac : ∀{l m:L_ It},Xu (l++m)=Xu l++Xu m:=by
 intro l
 induction l with
 | nil=>intro m;rfl
 | cons x l h=>intro m;cases x<;>simp[Xu,h]
def Qet {ms h:L_ Yj}:∀{B:St},MB B (ms++h)=MB (MB B ms) h:=by
 induction ms with
 | nil=>intro B;rfl
 | cons M ms y=>intro B;exact y
def Qi7 {its:L_ It}{i:Nat}{M:Yj}(h:its[i]? = some (.tn M)):(Xu its)[j0 its i]? = some M/\(Xu its).take (j0 its i+1)=(Xu its).take (j0 its i)++[M]:=by
 have y:=(Xe.1 h).1
 have e:its=its.take i++(.tn M::its.drop (i+1)):=by
  have:its.drop i=its[i]::its.drop (i+1):=SX y
  have h2:its[i]=.tn M:=by have:=QR y;rw[h]at this;exact(Option.some.inj this).symm
  rw[h2]at this
  rw[<-this,List.take_append_drop]
 have D:Xu its=Xu (its.take i)++(M::Xu (its.drop (i+1))):=by
  conv=>lhs;rw[e]
  rw[Ac];rfl
 unfold j0
 rw[D]
 refine⟨by simp,?_⟩
 rw[List.take_append,List.take_append]
 simp[UB]
def Qi8 {σ:St}{x:DF}{M:Yj}(D:Qhe x M=true)(h:ZK σ x):ZK (M.run σ) x:=by
 unfold Qhe Qhd at D
 rw[QL]at D
 refine⟨Yj.keeps_look D.1 h.1,λob hob=>?_⟩
 rw[hob]at D
 have y:=D.2
 dsimp only at y
 rw[QL]at y
 exact Yj.keepsO_look y.1 y.2 (h.2 ob hob)
def MC.of {σ:St}{x:DF}{y:Bool}{ms:L_ Yj}(h:ZK σ x):MC σ x y ms:=⟨λ_=>h.1,λ_=>h.2⟩
def MC.run {σ:St}{x:DF}{fl:Bool}{ms:L_ Yj}{M:Yj}(h:MC σ x fl ms):MC (M.run σ) x fl (ms++[M]):=by
 refine⟨λy=>?_,λy ob hob=>?_⟩
 ·simp only[alv,List.all_append,QL,Ox,List.all_nil,Bool.and_true]at y
  exact Yj.keeps_look y.2 (h.1 (by simp only[alv];exact y.1))
 simp only[Vf,List.all_append,QL,Ox,List.all_nil,Bool.and_true]at y
 have h1:=h.2 (by simp only[Vf];exact y.1) ob hob
 have D:=y.2
 unfold Qhd at D
 rw[hob]at D
 dsimp only at D
 rw[QL]at D
 exact Yj.keepsO_look D.1 D.2 h1
def QjQ {p:Nat}{M:Yj}(h:its[p]? = some (.tn M)):j0 its (p+1)=j0 its p+1:=by
 have y:=(Xe.1 h).1
 unfold j0
 rw[AQ,h,Ac];simp[Xu]
def Qeu : ∀{a b:Nat},a<=b->j0 its a<=j0 its b:=by
 intro a b h
 unfold j0
 obtain⟨c,rfl⟩:=Nat.exists_eq_add_of_le h
 rw[List.take_add,Ac];simp
def Qi9 {p i:Nat}{M:Yj}(h:its[p]? = some (.tn M))(y:p<i):j0 its p<j0 its i:=by
 have:=QjQ h
 have:=Qeu (its:=its) (show p+1<=i from y)
 omega
def Qcr : ∀{its:L_ It} {c:Nat},c<(Xu its).length->∃p M,its[p]? = some (.tn M)/\j0 its p=c:=by
 intro its
 induction its with
 | nil=>intro c h;simp[Xu]at h
 | cons it its ih=>
  intro c h
  cases it with
  | add x fl=>
   obtain⟨p,M,y,D⟩:=ih (c:=c) h
   exact⟨p+1,M,by simpa using y,by simpa[j0,Xu] using D⟩
  | tn M=>
   cases c with
   | zero=>exact⟨0,M,rfl,by simp[j0,Xu]⟩
   | succ c=>
    obtain⟨p,M',y,D⟩:=ih (c:=c) (by simpa[Xu] using h)
    exact⟨p+1,M',by simpa using y,by simpa[j0,Xu] using D⟩
def QhB {p:Nat}{M:Yj}(h:its[p]? = some (.tn M)):j0 its p<(Xu its).length:=(Xe.1 (Qi7 h).1).1
def Gw.stable : ∀{ms:L_ Yj} {B S:St},Qbs ms S=true->Gw B S->∀n,Gw (MB B (ms.take n)) S:=by
 intro ms
 induction ms with
 | nil=>intro B S _ h n;simpa[MB] using h
 | cons M ms ih=>
  intro B S y h n
  cases n with
  | zero=>exact h
  | succ n=>
   unfold Qbs at y
   rw[QL,XE,XE]at y
   refine ih (B:=M.run B) ?_ ⟨λt v hv=>?_,λp ob D=>?_⟩ n
   ·unfold Qbs
    rw[QL,XE,XE]
    exact⟨λp hp=>by have:=y.1 p hp;rw[Ox,QL]at this;exact this.2,λp hp=>by have:=y.2 p hp;rw[Ox,QL]at this;exact this.2⟩
   ·have:=y.1 (t,v) (Je hv)
    rw[Ox,QL]at this
    exact Yj.keeps_look this.1 (h.1 t v hv)
   have:=y.2 (p,ob) (Je D)
   rw[Ox,QL,QL]at this
   exact Yj.keepsO_look this.1.1 this.1.2 (h.2 p ob D)
def ZV : ∀{its:L_ It} {i:Nat} {x:DF} {fl nf:Bool},its[i]? = some (.add x fl nf)->x.d∈RI its/\(x.ob.isSome=true->x.d∈ZU its):=by
 intro its
 induction its with
 | nil=>intro i x fl nf h;simp at h
 | cons it its ih=>
  intro i x fl nf h
  cases i with
  | zero=>
   simp at h;subst h
   refine⟨YF,λD=>?_⟩
   rw[ZU];split
   ·exact YF
   rename_i he;rw[he]at D;cases D
  | succ i=>
   obtain⟨a,b⟩:=ih (i:=i) (by simpa using h)
   cases it with
   | add y fl' nf'=>
    refine⟨Jz _ a,λD=>?_⟩
    rw[ZU];split
    ·exact Jz _ (b D)
    exact b D
   | tn M=>exact⟨a,b⟩
def Qdq : ∀{its:L_ It},(RI its).Nodup->∀{i k:Nat} {x y:DF} {fl D nf nf':Bool},its[i]? = some (.add x fl nf)->its[k]? = some (.add y D nf')->x.d=y.d->i=k:=by
 intro its
 induction its with
 | nil=>intro _ i k x y fl D nf nf' h;simp at h
 | cons it its ih=>
  intro hn i k x y fl D nf nf' hi hk e
  cases it with
  | tn M=>
   cases i with
   | zero=>simp at hi
   | succ i=>cases k with
    | zero=>simp at hk
    | succ k=>rw[ih hn (i:=i) (k:=k) (by simpa using hi) (by simpa using hk) e]
  | add z f g=>
   rw[RI,Ft]at hn
   cases i with
   | zero=>
    cases k with
    | zero=>rfl
    | succ k=>
     simp at hi;obtain⟨rfl,rfl,rfl⟩:=hi
     exact absurd (by rw[e];exact(ZV (i:=k) (by simpa using hk)).1) hn.1
   | succ i=>
    cases k with
    | zero=>
     simp at hk;obtain⟨rfl,rfl,rfl⟩:=hk
     exact absurd (by rw[<-e];exact(ZV (i:=i) (by simpa using hi)).1) hn.1
    | succ k=>rw[ih hn.2 (i:=i) (k:=k) (by simpa using hi) (by simpa using hk) e]
def QkT {M:Yj}{B:St}{t:Nat}{v:V}(h:look (M.run B).fr t=some v):(∃u,look B.fr t=some u)\/∃u,M.put=some (t,u):=by
 have kill:∀{l:L_ Nat} {B:St} {v:V},look (B.killL l).fr t=some v->∃u,look B.fr t=some u:=by
  intro l
  induction l with
  | nil=>intro B v h;exact⟨v,h⟩
  | cons b l ih=>
   intro B v h
   obtain⟨u,y⟩:=ih h
   have y:look (Ct b B.fr) t=some u:=y
   rw[NM]at y
   obtain⟨w,D,_⟩:=XZ.1 y
   exact⟨w,D⟩
 unfold Yj.run at h
 split at h
 ·rw[QfE]at h;exact .inl (kill h)
 rename_i d u hp
 by_cases e:d=t
 ·subst e;exact .inr ⟨u,hp⟩
 have h:look ((d,u)::((B.killL M.kills).sets M.sets).fr) t=some v:=h
 rw[QA _ _ e,QfE]at h;exact .inl (kill h)
def QjR {M:Yj}{B:St}{p:Nat}{ob:Ob}(h:look (M.run B).hp p=some ob):(∃u,look B.hp p=some u)\/p∈M.sets.map Prod.fst:=by
 have kill:∀{l:L_ Nat} {B:St} {ob:Ob},look (B.killL l).hp p=some ob->∃u,look B.hp p=some u:=by
  intro l
  induction l with
  | nil=>intro B ob h;exact⟨ob,h⟩
  | cons b l ih=>
   intro B ob h
   obtain⟨u,y⟩:=ih h
   have y:look (Ek b B.hp) p=some u:=y
   rw[HL]at y
   split at y
   ·cases y
   obtain⟨w,hw,_⟩:=XZ.1 y
   exact⟨w,hw⟩
 have D:∀{l:H_} {B:St} {ob:Ob},look (B.sets l).hp p=some ob->(∃u,look B.hp p=some u)\/p∈l.map Prod.fst:=by
  intro l
  induction l with
  | nil=>intro B ob h;exact .inl ⟨ob,h⟩
  | cons q l ih=>
   intro B ob h
   by_cases e:q.1=p
   ·exact .inr (by rw[GK,e];exact YF)
   have h:look ((B.sets l).set q.1 q.2).hp p=some ob:=h
   rw[St.look_set_other _ _ e]at h
   exact(ih h).imp id (Jz _)
 have h1:look ((B.killL M.kills).sets M.sets).hp p=some ob:=by
  unfold Yj.run at h
  split at h<;>exact h
 rcases D h1 with⟨u,y⟩|h2
 ·exact .inl (kill y)
 exact .inr h2
def QkU : ∀{ms:L_ Yj} {B:St} {t:Nat} {v:V},look (MB B ms).fr t=some v->(∃u,look B.fr t=some u)\/t∈Ha ms:=by
 intro ms
 induction ms with
 | nil=>intro B t v h;exact .inl ⟨v,h⟩
 | cons M ms D=>
  intro B t v h
  rcases D h with⟨u,y⟩|h
  ·rcases QkT y with h | ⟨u,hp⟩
   ·exact .inl h
   refine .inr ?_;rw[Ha,hp];exact YF
  refine .inr ?_;rw[Ha];split
  ·exact Jz _ h
  exact h
def QjS : ∀{ms:L_ Yj} {B:St} {p:Nat} {ob:Ob},look (MB B ms).hp p=some ob->(∃u,look B.hp p=some u)\/p∈Qhz ms:=by
 intro ms
 induction ms with
 | nil=>intro B p ob h;exact .inl ⟨ob,h⟩
 | cons M ms D=>
  intro B p ob h
  rcases D h with⟨u,y⟩|h
  ·rcases QjR y with h | h
   ·exact .inl h
   exact .inr (SZ _ h)
  exact .inr (List.mem_append_right _ h)
def Qil : ∀{ms:L_ Yj} {n t:Nat},t∈Ha (ms.take n)->t∈Ha ms:=by
 intro ms
 induction ms with
 | nil=>intro n t h;simpa using h
 | cons M ms y=>
  intro n t h
  cases n with
  | zero=>simp[Ha]at h
  | succ n=>
   rw[List.take_succ_cons,Ha]at h
   rw[Ha]
   split at h
   ·rcases XQ.1 h with rfl | h
    ·exact YF
    exact Jz _ (y h)
   exact y h
def Qnj (base:St)(its:L_ It)(h:Array Bool)(σ:St):Prop:=∃j,j<=(Xu its).length/\(∀p M,its[p]? = some (.tn M)->(h[p]? = some true↔j0 its p<j))/\Gw σ (MB base ((Xu its).take j))/\
 ∀i x y D,its[i]? = some (.add x y D)->(h[i]? = some true->MC σ x y (((Xu its).take j).drop (j0 its i)))/\(h[i]? ≠ some true->x.ob.isSome=true->look σ.hp x.d=none)/\(y=true->h[i]? = some true->Hb (Xu its) its=true\/j<(Xu its).length->ZK σ x)
def Qmd (ops:Array Oper)(its:L_ It):Bool:=ZT its (its.length-1)&&(List.range (its.length-1)).all λi=>AS ops 8 i (its.length-1)
def QfG (ops:Array Oper)(ms:L_ Yj)(its:L_ It):Bool:=Hb ms its||(Hb (ms.take (ms.length-1)) its&&Qmd ops its)
def QkV (its:L_ It)(i:Nat):Bool:=match its[i]? with
 | some (.add _ true false)=>true
 | _=>false
def Qme (ops:Array Oper)(its:L_ It)(p:Nat):Bool:=ZT its p&&Nat.beq (j0 its p+1) (Xu its).length&&(List.range its.length).all λi=>!QkV its i||AS ops 8 i p
def QfH (ops:Array Oper)(its:L_ It)(ms:L_ Yj)(S:St):Bool:=Qbs ms S||(Qbs (ms.take (ms.length-1)) S&&(List.range its.length).any (Qme ops its))
def AK.drawV {id:Nat}(hmix:P.follows .mixedOrders=true)(hlen:its.length=ops.size)(hord:QfA ops=true)(hov:QkS ops its=true)(hap:QhA base its=true)(hsv:Qi6 ops its=true)(hfk:QfG ops (Xu its) its=true)(hsk:QfH ops its (Xu its) S=true)(hS:Gw base S)
  (steps:∀i o it,ops[i]? = some o->its[i]? = some it->VS P C ops base S its i o it)
  (k:∀σ,Gw σ (MB base (Xu its))->(∀i x fl nf,its[i]? = some (.add x fl nf)->MC σ x fl ((Xu its).drop (j0 its i)))->AK P C Q (.x .normal) ks σ):AK P C Q (.c (.region id ops true)) ks base:=by
 simp only[QhA,QL,XE,Wy]at hap
 obtain⟨⟨hnd,hd1⟩,hd2⟩:=hap
 have hnd:=Dh.1 hnd
 have ord:∀i p it M,its[i]? = some it->its[p]? = some (.tn M)->p≠i->(∀x,it≠.add x true false)->(p<i->AS ops 8 p i=true)/\(i<p->AS ops 8 i p=true):=by
  intro i p it M hi hp hne hnf
  have hil:=(Xe.1 hi).1
  have hpl:=(Xe.1 hp).1
  unfold QkS at hov
  rw[XE]at hov
  have h1:=hov i (Fs.2 hil)
  rw[XE]at h1
  have h2:=h1 p (Fs.2 hpl)
  have hm:ZT its p=true:=by unfold ZT;rw[hp]
  have hb:Nat.beq p i=false:=by cases hb:Nat.beq p i with
   | true=>exact absurd (YE hb) hne
   | false=>rfl
  rw[hm,hb,hi]at h2
  simp only[Fo,Bool.false_or]at h2
  have h3:(bif Nat.ble (p+1) i then AS ops 8 p i else AS ops 8 i p)=true:=by
   cases it with
   | add x fl nf=>cases fl with
    | true=>cases nf with
     | false=>exact absurd rfl (hnf x)
     | true=>exact h2
    | false=>exact h2
   | tn M=>exact h2
  refine⟨λh=>?_,λh=>?_⟩
  ·rw[show Nat.ble (p+1) i=true from PV h]at h3;exact h3
  have:Nat.ble (p+1) i=false:=by cases hc:Nat.ble (p+1) i with
   | true=>have:=JK hc;omega
   | false=>rfl
  rw[this]at h3;exact h3
 have sets:∀(i p:Nat) (x:DF) (fl nf:Bool) (M:Yj),its[i]? = some (.add x fl nf)->its[p]? = some (.tn M)->x.ob.isSome=true->x.d∈M.sets.map Prod.fst->AS ops 8 i p=true:=by
  intro i p x fl nf M hi hp hob hmem
  have hil:=(Xe.1 hi).1
  have hpl:=(Xe.1 hp).1
  unfold Qi6 at hsv
  rw[XE]at hsv
  have h1:=hsv i (Fs.2 hil)
  rw[XE]at h1
  have h2:=h1 p (Fs.2 hpl)
  rw[hi,hp]at h2
  dsimp only at h2
  rw[FX.2 hmem]at h2
  have:x.ob.isNone=false:=by cases hx:x.ob with
   | none=>rw[hx]at hob;cases hob
   | some=>rfl
  rw[this]at h2
  simpa using h2
 have memSets:∀{ms:L_ Yj} {d:Nat},d∈Qhz ms->∃(c:Nat) (M:Yj),ms[c]? = some M/\d∈M.sets.map Prod.fst:=by
  intro ms
  induction ms with
  | nil=>intro d h;cases h
  | cons N ms ih=>
   intro d h
   rcases Ep.1 h with h | h
   ·exact⟨0,N,rfl,h⟩
   obtain⟨c,M,h1,h2⟩:=ih h;exact⟨c+1,M,by simpa using h1,h2⟩
 have all:∀{l:L_ It} {ms:L_ Yj},Hb ms l=true->∀{q:Nat} {y:DF} {nf:Bool},l[q]? = some (.add y true nf)->ms.all (Qhe y)=true:=by
  intro l
  induction l with
  | nil=>intro ms _ q y nf h;simp at h
  | cons it l ih=>
   intro ms h q y nf hq
   cases it with
   | add z f g=>
    rw[Hb,QL]at h
    cases q with
    | zero=>simp at hq;obtain⟨rfl,rfl,rfl⟩:=hq;simpa using h.1
    | succ q=>exact ih h.2 (by simpa using hq)
   | tn M=>
    cases q with
    | zero=>simp at hq
    | succ q=>exact ih h (by simpa using hq)
 have lst:Hb (Xu its) its=true\/(Hb ((Xu its).take ((Xu its).length-1)) its=true/\(∃M,its[its.length-1]? = some (.tn M)/\j0 its (its.length-1)+1=(Xu its).length)/\∀i,i<its.length-1->AS ops 8 i (its.length-1)=true):=by
  unfold QfG at hfk
  rw[KR,QL]at hfk
  refine hfk.imp_right λh=>⟨h.1,?_⟩
  have h2:=h.2
  unfold Qmd at h2
  rw[QL,XE]at h2
  obtain⟨p1,p2⟩:=h2
  refine⟨?_,λi hi=>p2 i (Fs.2 hi)⟩
  unfold ZT at p1
  split at p1
  ·rename_i M hM
   refine⟨M,hM,?_⟩
   have h3:=QjQ hM
   have hl:=(Xe.1 hM).1
   have h4:j0 its its.length=(Xu its).length:=by unfold j0;rw[Ln]
   rw[show its.length-1+1=its.length by omega]at h3
   omega
  cases p1
 refine AK.regionInv (Qnj base its) hmix ?_ hord ?_ ?_
 ·intro D σ i o hs hd hi ho ⟨j,hj,hmu,hsub,hadd⟩
  obtain⟨o',ho',hl,hdeps⟩:=(Mc hs).1 hi
  rw[ho]at ho';cases ho'
  have hio:i<ops.size:=(Ud.1 ho).1
  have hil:i<its.length:=by omega
  have hin:i<D.size:=by omega
  obtain⟨it,hit⟩:∃it,its[i]? = some it:=⟨_,QR hil⟩
  have hnl:D[i]? ≠ some true:=by rw[hl];simp
  have hst:=steps i o it ho hit
  have depsL:∀{q:Nat},Ix o q=true->D[q]? = some true:=λhdep=>by
   simp only[Ix,Oy,QL]at hdep
   obtain⟨e,he,hb,hon⟩:=hdep
   have:=hdeps e (Qdl.1 he) hb
   rwa[YE hon]at this
  have stage:(∀x,it≠.add x true false)->j=j0 its i:=by
   intro hnf
   apply Nat.le_antisymm
   ·rcases DH (j0 its i) j with hlt | h
    ·obtain⟨p,M,hp,hpj⟩:=Qcr (its:=its) (c:=j0 its i) (by omega)
     have hpl:D[p]? = some true:=(hmu p M hp).2 (by omega)
     rcases Nat.lt_trichotomy p i with h | h | h
     ·have:=Qi9 hp h;omega
     ·subst h;exact absurd hpl hnl
     have hm:=(ord i p it M hit hp (by omega) hnf).2 h
     exact absurd (Be hd 8 hm hpl) hnl
    exact h
   rcases Nat.eq_zero_or_pos (j0 its i)with h | h
   ·omega
   have hle:j0 its i<=(Xu its).length:=by
    have h1:=Qeu (its:=its) (show i<=its.length by omega)
    have h2:j0 its its.length=(Xu its).length:=by unfold j0;rw[Ln]
    omega
   obtain⟨p,M,hp,hpj⟩:=Qcr (its:=its) (c:=j0 its i-1) (by omega)
   have hpi:p<i:=by
    rcases Nat.lt_trichotomy p i with h' | h' | h'
    ·exact h'
    ·subst h';omega
    have:=Qeu (its:=its) (Nat.le_of_lt h');omega
   have hm:=(ord i p it M hit hp (by omega) hnf).1 hpi
   have:=(hmu p M hp).1 (Qde hs hd hm hi)
   omega
  have setL:∀q,(D.setIfInBounds i true)[q]? = some true↔q=i\/D[q]? = some true:=λq=>by
   by_cases e:i=q
   ·subst e;simp[TW,hin]
   rw[Qhf e];simp[Ne.symm e]
  cases it with
  | tn M=>
   have hjj:=stage λx e=>by cases e
   subst hjj
   have hM:=Qi7 hit
   have hos:JB P C ops o σ (M.run σ):=hst σ hsub λq y fl nf hq hdep=>(hadd q y fl nf hq).1 (depsL hdep)
   have flt:∀{q:Nat} {y:DF} {fl nf:Bool},fl=true->D[q]? = some true->its[q]? = some (.add y fl nf)->Hb (Xu its) its=true\/j0 its i+1<(Xu its).length->ZK (M.run σ) y:=by
    intro q y fl nf hfl hql hq hz
    subst hfl
    have h1:=(hadd q y true nf hq).2.2 rfl hql (hz.imp_right λh=>by omega)
    refine Qi8 ?_ h1
    rcases lst with h | ⟨h,_,_⟩
    ·exact XE.1 (all h hq) M (XU hM.1)
    rcases hz with hz | hz
    ·exact XE.1 (all hz hq) M (XU hM.1)
    refine XE.1 (all h hq) M (XU (i:=j0 its i) ?_)
    rw[List.getElem?_take_of_lt (by omega)];exact hM.1
   refine⟨_,hos,j0 its i+1,by have:=QhB hit;omega,λp M' hp=>?_,?_,λq y fl nf hq=>⟨λhql=>?_,λhql hob=>?_,λhfl hql hz=>?_⟩⟩
   ·rw[setL]
    constructor
    ·rintro (rfl | h)
     ·omega
     have:=(hmu p M' hp).1 h;omega
    intro h
    rcases DH (j0 its p) (j0 its i)with h1 | h1
    ·exact .inr ((hmu p M' hp).2 h1)
    left
    rcases Nat.lt_trichotomy p i with h' | h' | h'
    ·have:=Qi9 hp h';omega
    ·exact h'
    have:=Qi9 hit h';omega
   ·rw[hM.2,Qet];exact hsub.run M
   ·rcases(setL q).1 hql with rfl | hql
    ·rw[hit]at hq;cases hq
    rcases DH (j0 its i) (j0 its q)with hlt | hle
    ·cases fl with
     | true=>
      refine MC.of (flt rfl hql hq ?_)
      rcases lst with h | ⟨_,⟨M',hp,hpj⟩,_⟩
      ·exact .inl h
      right
      have hqi:q<=its.length-1:=by have:=(Xe.1 hq).1;omega
      have:=Qeu (its:=its) hqi
      omega
     | false=>
      exfalso
      have hiq:i<q:=by
       rcases DH i q with h | h
       ·exact h
       have:=Qeu (its:=its) h;omega
      have hm:=(ord q i _ M hq hit (by omega) (λx e=>by cases e)).1 hiq
      exact absurd (Be hd 8 hm hql) hnl
    rw[hM.2,List.drop_append_of_le_length (by simp;have:=QhB hit;omega)]
    exact((hadd q y fl nf hq).1 hql).run
   ·have hqi:q≠i:=λe=>by subst e;rw[hit]at hq;cases hq
    have hql':D[q]? ≠ some true:=λh=>hql ((setL q).2 (.inr h))
    refine Yj.none_look ?_ ((hadd q y fl nf hq).2.1 hql' hob)
    rw[XE]
    intro r hr
    cases hb:Nat.beq r.1 y.d with
    | false=>rfl
    | true=>
     have hm:=sets q i y fl nf M hq hit hob (by rw[<-YE hb];exact List.mem_map_of_mem hr)
     exact absurd (Qde hs hd hm hi) hql'
   refine flt hfl ((setL q).1 hql |>.resolve_left λe=>by subst e;rw[hit]at hq;cases hq) hq hz
  | add x fl nf=>
   have hfresh:x.ob.isSome=true->look σ.hp x.d=none:=(hadd i x fl nf hit).2.1 hnl
   have hos:JB P C ops o σ (σ.addF x):=by
    have hB:¬(fl=true/\nf=false)->(∀σ,Gw σ (MB base ((Xu its).take (j0 its i)))->(∀k y fl nf,its[k]? = some (.add y fl nf)->Ix o k=true->MC σ y fl (((Xu its).take (j0 its i)).drop (j0 its k)))->(x.ob.isSome=true->look σ.hp x.d=none)->JB P C ops o σ (σ.addF x))->JB P C ops o σ (σ.addF x):=λhne hst=>by
     have hjj:=stage λy e=>by cases e;exact hne ⟨rfl,rfl⟩
     subst hjj
     exact hst σ hsub (λq y fl nf hq hdep=>(hadd q y fl nf hq).1 (depsL hdep)) hfresh
    cases fl with
    | true=>cases nf with
     | false=>
      have h1:Gw base S:=hS
      have hZ:Hb (Xu its) its=true\/j<(Xu its).length:=by
       refine lst.imp_right λ⟨_,⟨M,hp,hpj⟩,hall⟩=>?_
       rcases DH j (Xu its).length with h | h
       ·exact h
       exfalso
       have hpl:=(hmu _ M hp).2 (by omega)
       have hne:i≠its.length-1:=λe=>by rw[<-e,hit]at hp;cases hp
       exact absurd (Be hd 8 (hall i (by omega)) hpl) hnl
      have h2:Gw (MB base ((Xu its).take j)) S:=by
       unfold QfH at hsk
       rw[KR]at hsk
       rcases hsk with hsk | hsk
       ·exact Gw.stable hsk h1 j
       rw[QL,Oy]at hsk
       obtain⟨hs1,p,_,hp⟩:=hsk
       unfold Qme at hp
       simp only[QL]at hp
       obtain⟨⟨p1,p2⟩,p3⟩:=hp
       have hjm:j<=(Xu its).length-1:=by
        rcases DH ((Xu its).length-1) j with hlt | h
        ·exfalso
         obtain⟨M,hM⟩:∃M,its[p]? = some (.tn M):=by
          unfold ZT at p1
          split at p1
          ·exact⟨_,‹_›⟩
          cases p1
         have p2:=YE p2
         have hpl:=(hmu p M hM).2 (by omega)
         have h3:=XE.1 p3 i (Fs.2 hil)
         have hf:QkV its i=true:=by unfold QkV;rw[hit]
         rw[hf]at h3
         exact absurd (Be hd 8 h3 hpl) hnl
        exact h
       have h4:=Gw.stable hs1 h1 j
       rwa[List.take_take,ZC hjm]at h4
      exact hst σ ⟨λt v h=>hsub.1 t v (h2.1 t v h),λp ob h=>hsub.2 p ob (h2.2 p ob h)⟩ (λq y nf hq hdep=>(hadd q y true nf hq).2.2 rfl (depsL hdep) hZ) hfresh
     | true=>exact hB (λe=>by cases e.2) hst
    | false=>exact hB (λe=>by cases e.1) hst
   obtain⟨hmd,hmo⟩:=ZV hit
   have frK:∀t v,t≠x.d->look σ.fr t=some v->look (σ.addF x).fr t=some v:=by
    intro t v hne h
    unfold St.addF
    split
    ·show look ((x.d,x.v)::σ.fr) t=some v
     rw[QA _ _ (Ne.symm hne)];exact h
    show look ((x.d,x.v)::σ.fr) t=some v
    rw[QA _ _ (Ne.symm hne)];exact h
   have hpK:∀p,(p≠x.d\/x.ob=none)->look (σ.addF x).hp p=look σ.hp p:=by
    intro p hne
    unfold St.addF
    split
    ·rfl
    rename_i ob hob
    rcases hne with hne | hne
    ·exact σ.look_set_other _ (Ne.symm hne)
    rw[hob]at hne;cases hne
   refine⟨_,hos,j,hj,λp M hp=>?_,⟨λt v h=>?_,λp ob h=>?_⟩,λq y fl' nf' hq=>⟨λhql=>?_,λhql hob=>?_,λhfl hql hz=>?_⟩⟩
   ·rw[setL,<-hmu p M hp]
    have:p≠i:=λe=>by subst e;rw[hit]at hp;cases hp
    simp[this]
   ·refine frK t v (λe=>?_) (hsub.1 t v h)
    subst e
    have h1:=hd1 _ hmd
    rcases QkU h with⟨u,hu⟩|h2
    ·rw[RA hu]at h1;cases h1.1
    rw[FX.2 (Qil h2)]at h1;cases h1.2
   ·have hne:p≠x.d\/x.ob=none:=by
     cases hob:x.ob with
     | none=>exact .inr rfl
     | some ob'=>
      refine .inl λe=>?_
      subst e
      have hob':x.ob.isSome=true:=by rw[hob];rfl
      have h1:=hd2 _ (hmo hob')
      rcases QjS h with⟨u,hu⟩|h2
      ·rw[RA hu]at h1;cases h1
      obtain⟨c,M,h3,h4⟩:=memSets h2
      have hc:c<j:=by
       have:=(Xe.1 h3).1
       simp at this;omega
      have h3':(Xu its)[c]? = some M:=by rw[List.getElem?_take_of_lt hc]at h3;exact h3
      obtain⟨p',M',hp',hpc⟩:=Qcr (its:=its) (c:=c) (Xe.1 h3').1
      have h5:=(Qi7 hp').1
      rw[hpc,h3']at h5;cases h5
      have hm:=sets i p' x fl nf M hit hp' hob' h4
      exact absurd (Be hd 8 hm ((hmu p' M hp').2 (by omega))) hnl
    rw[hpK p hne];exact hsub.2 p ob h
   ·by_cases e:q=i
    ·subst e
     rw[hit]at hq;cases hq
     refine MC.of ⟨?_,λob hob=>?_⟩
     ·unfold St.addF
      split<;>exact QC _ _ _
     unfold St.addF
     rw[hob];exact QC _ _ _
    have hql':D[q]? = some true:=((setL q).1 hql).resolve_left e
    obtain⟨h1,h2⟩:=(hadd q y fl' nf' hq).1 hql'
    have hne:y.d≠x.d:=λh=>e (Qdq hnd hq hit h)
    exact⟨λhal=>frK _ _ hne (h1 hal),λhal ob hob=>by rw[hpK _ (.inl hne)];exact h2 hal ob hob⟩
   ·have e:q≠i:=λe=>hql ((setL q).2 (.inl e))
    have hql':D[q]? ≠ some true:=λh=>hql ((setL q).2 (.inr h))
    have hne:y.d≠x.d:=λh=>e (Qdq hnd hq hit h)
    rw[hpK _ (.inl hne)];exact(hadd q y fl' nf' hq).2.1 hql' hob
   by_cases e:q=i
   ·subst e
    rw[hit]at hq;cases hq
    refine⟨?_,λob hob=>?_⟩
    ·unfold St.addF
     split<;>exact QC _ _ _
    unfold St.addF
    rw[hob];exact QC _ _ _
   have hql':D[q]? = some true:=((setL q).1 hql).resolve_left e
   obtain⟨h1,h2⟩:=(hadd q y fl' nf' hq).2.2 hfl hql' hz
   have hne:y.d≠x.d:=λh=>e (Qdq hnd hq hit h)
   exact⟨frK _ _ hne h1,λob hob=>by rw[hpK _ (.inl hne)];exact h2 ob hob⟩
 ·refine⟨0,Nat.zero_le _,λp M _=>by simp[Array.getElem?_replicate],⟨λ_ _ h=>h,λ_ _ h=>h⟩,λi x fl nf hi=>⟨λh=>by simp[Array.getElem?_replicate]at h,λ_ hob=>?_,λ_ h=>by simp[Array.getElem?_replicate]at h⟩⟩
  have h1:=hd2 _ ((ZV hi).2 hob)
  cases h:look base.hp x.d with
  | none=>rfl
  | some ob=>rw[RA h]at h1;cases h1
 intro D σ hs hall ⟨j,hj,hmu,hsub,hadd⟩
 have hjt:j=(Xu its).length:=by
  rcases DH j (Xu its).length with h | h
  ·obtain⟨p,M,hp,hpj⟩:=Qcr (its:=its) h
   have:=(hmu p M hp).1 (hall p (by have:=(Xe.1 hp).1;omega))
   omega
  omega
 subst hjt
 rw[Ln]at hsub
 refine k σ hsub λi x fl nf hi=>?_
 have:=(hadd i x fl nf hi).1 (hall i (by have:=(Xe.1 hi).1;omega))
 rwa[Ln]at this
end
inductive MD where
 | s
 | st (r:List V) (rs:List (List V))
 | app (rs:List (List V)) (m:Nat)
 | any (M:Yj)
 | cm (en:Ent) (M N:List (Nat×Nat)) (dead:List Nat) (ms:List Mode) (outs:List (Nat×Ob)) (r:V) (same:List Nat)
inductive Dw where
 | a (h:KU) (sv:Option (List (Option Nat)×V)) (fl:Bool) (nf:Bool:=false)
 | m (md:MD)
def QkW (P:Program)(T:GL)(f:Operand->O_ V)(hp:Nat->O_ Ob)(c:Call):Ent->O_ (Nat×L_ V×Prop)
 | .fn=>match c.callee with
  | .value (.func g)=>bif XJ T.en g then match Ti f c.args.toList with
   | some vs=>some (g,vs,True)
   | none=>none
   else none
  | _=>none
 | .clo=>match c.callee with
  | .value x=>match f x with
   | some (.clo (.func g) fs h)=>bif XJ T.en g then match Ti f c.args.toList with
    | some vs=>some (g,fs++(vs++h),True)
    | none=>none
    else none
   | _=>none
  | _=>none
 | .me g=>match c.callee with
  | .invoke x name=>match f x with
   | some (.ifc t u)=>bif XJ T.en g then match Ti f c.args.toList with
    | some vs=>some (g,u::vs,(UE P t name=some (g,true)/\Qdn P t=true)\/(UE P t name=some (g,false)/\RD P t=true))
    | none=>none
    else none
   | _=>none
  | _=>none
 | .mv g e=>match c.callee with
  | .invoke x name=>match f x with
   | some (.ifc t (.loc b 0 off))=>match hp b with
    | some (.var h)=>match h[off]? with
     | some r=>bif XJ T.en g then match Ti f c.args.toList with
      | some vs=>some (g,r::vs,UE P t name=some (g,false)/\Th P t e=true/\Ea P e=some false)
      | none=>none
      else none
     | none=>none
    | _=>none
   | _=>none
  | _=>none
def Qja {P:Program}{C:XA}{T:GL}{f:Operand->O_ V}{hp:Nat->O_ Ob}{o:Oper}{c:Call}{en:Ent}{g:Nat}{vs:L_ V}{ψ:Prop}{σ:St}(ok:WT P T)(ho:o.op=.call c)(e:QkW P T f hp c en=some (g,vs,ψ))(hφ:ψ)
  (D:∀x u,f x=some u->σ.opd x=some u) (h2:∀b u,hp b=some u->look σ.hp b=some u):YU P C o σ g vs:=by
 obtain⟨ce,ags,ts⟩:=c
 unfold QkW at e
 split at e
 ·split at e
  ·rename_i f' h
   dsimp only at h;subst h
   replace e:=XV e;obtain⟨y,e⟩:=e
   split at e
   ·rename_i vs' hv;cases e;exact YU.fn ho (ok.en y) (Uh D hv)
   cases e
  cases e
 ·split at e
  ·rename_i x h
   dsimp only at h;subst h
   split at e
   ·rename_i f' fs cs hx
    replace e:=XV e;obtain⟨y,e⟩:=e
    split at e
    ·rename_i vs' hv;cases e;exact YU.clo ho (D _ _ hx) (ok.en y) (Uh D hv)
    cases e
   cases e
  cases e
 ·split at e
  ·rename_i x name h
   dsimp only at h;subst h
   split at e
   ·rename_i t u hx
    replace e:=XV e;obtain⟨y,e⟩:=e
    split at e
    ·rename_i vs' hv;cases e;exact YU.meth (r:=u) ho (D _ _ hx) hφ (ok.en y) (Uh D hv)
    cases e
   cases e
  cases e
 split at e
 ·rename_i x name h
  dsimp only at h;subst h
  split at e
  ·rename_i t b off hx
   split at e
   ·rename_i cs hb
    split at e
    ·rename_i r hr0
     replace e:=XV e;obtain⟨y,e⟩:=e
     split at e
     ·rename_i vs' hv;cases e;exact YU.methV ho (D _ _ hx) hφ.1 hφ.2.1 hφ.2.2 (h2 _ _ hb) hr0 (ok.en y) (Uh D hv)
     cases e
    cases e
   cases e
  cases e
 cases e
def QjT {bk:Nat->O_ Nat}{hp D:Nat->O_ Ob}(h:∀b u,hp b=some u->D b=some u):∀{M:L_ (Nat×Nat)} {l:H_},CY bk hp M=some l->CY bk D M=some l:=by
 intro M
 induction M with
 | nil=>intro l e;exact e
 | cons p M ih=>
  obtain⟨d,s⟩:=p
  intro l e
  rw[CY]at e ⊢
  split at e
  ·rename_i ob hob
   split at e
   ·rename_i ob' y
    split at e
    ·rename_i l' hl
     simp only[h _ _ hob,y,ih hl];exact e
    cases e
   cases e
  cases e
def Qjb {σ:St}{M N:L_ (Nat×Nat)}{dead:L_ Nat}{outs:H_}(h:DK ⟨[],N.map λp=>(p.1,Ob.itr0)⟩ M N dead outs=true):DK σ M N dead outs=true:=by
 simp only[DK,QL,XE]at h ⊢
 obtain⟨⟨h1,h2⟩,y⟩:=h
 refine⟨⟨h1,h2⟩,λp hp=>⟨⟨?_,(y p hp).1.2⟩,(y p hp).2⟩⟩
 have hn:∀{l:L_ (Nat×Nat)},p∈l->(look (l.map λp=>(p.1,Ob.itr0)) p.1).isNone=false:=by
  intro l hp
  induction l with
  | nil=>cases hp
  | cons q l ih=>
   show(look ((q.1,Ob.itr0)::l.map λp=>(p.1,Ob.itr0)) p.1).isNone=false
   by_cases e:q.1=p.1
   ·rw[e,QC];rfl
   rw[QA _ _ e]
   refine ih ?_
   rcases XQ.1 hp with h | h
   ·exact absurd (congrArg Prod.fst h).symm e
   exact h
 have D:=(y p hp).1.1
 rw[hn hp,Bool.or_false]at D
 rw[D];rfl
def ZW {σ:St}(dead:L_ Nat):∀(l:H_),(σ.killL dead).sets l=σ.after dead l:=by
 intro l
 induction l with
 | nil=>rfl
 | cons p l h=>rw[St.sets,h];rfl
def Qjc (hp:Nat->O_ Ob)(h:H_):L_ Nat->Prop
 | []=>True
 | b::r=>hp b=look h b/\Qjc hp h r
def QjU {hp:Nat->O_ Ob}{y:H_}:∀{l:L_ Nat},Qjc hp y l->∀b,XJ l b=true->hp b=look y b:=by
 intro l
 induction l with
 | nil=>intro _ b h;cases h
 | cons a l ih=>
  intro h b D
  rw[XJ]at D
  cases e:Nat.beq a b with
  | true=>rw[<-YE e];exact h.1
  | false=>rw[e]at D;exact ih h.2 b (by simpa using D)
def Qim {y:L_ Nat}:∀{l:H_} {b:Nat},look (l.filter λp=>!(XJ y p.1)) b=if XJ y b=true then none else look l b:=by
 intro l
 induction l with
 | nil=>intro b;simp[look]
 | cons p l D=>
  intro b
  rw[Ah]
  by_cases e:p.1=b
  ·subst e
   cases h:XJ y p.1 with
   | true=>
    simp only[Fo,Bool.false_eq_true,if_false]
    rw[D,h];simp
   | false=>
    simp only[Bool.not_false,if_true,Bool.false_eq_true,if_false]
    obtain⟨k,v⟩:=p
    rw[QC,QC]
  cases h:XJ y p.1 with
  | true=>
   simp only[Fo,Bool.false_eq_true,if_false]
   rw[D,QA (k:=p.1) p.2 l e]
  | false=>
   simp only[Bool.not_false,if_true]
   rw[QA (k:=p.1) p.2 _ e,D,QA (k:=p.1) p.2 l e]
def R.congrHp {C:XA}{σ σ':St}(hf:σ'.fr=σ.fr)(y:∀o,look σ'.hp o=look σ.hp o){a:Act}{w:World}(hR:R C σ a w):R C σ' a w:=by
 obtain⟨φ,h⟩:=hR
 exact⟨φ,h.os,h.tape,h.output,h.size,h.kept,h.inj,λo B hB=>by rw[y];exact h.dom o B hB,h.lt,h.new,⟨h.stay.1,λo ob B h1 h2 h3=>h.stay.2 o ob B h1 (by rw[<-y];exact h2) h3⟩,h.tmps,h.defers,λt v hv=>h.frame t v (by rw[<-hf];exact hv),λo ob D=>h.heap o ob (by rw[<-y];exact D)⟩
def mu1 (P:Program)(C:XA)(T:GL)(n:Nat)(md:MD)(o:Oper)(f:Operand->O_ V)(hp:Nat->O_ Ob):O_ (Yj×O_ Prop):=match md with
 | .cm en M N dead ms outs r h=>match o.dst with
  | some d=>match o.op with
   | .call c=>bif DK ⟨[],N.map λp=>(p.1,Ob.itr0)⟩ M N dead outs&&Bc (M.map Prod.fst)&&Bc (N.map Prod.fst)&&Nat.ble (d+1) n then match QkW P T f hp c en with
    | some (g,vs,ψ)=>match MA (Gd M) ms vs with
     | some us=>match CY (Gd M) hp M with
      | some hsC=>match CY (Gd N) (look outs) N with
       | some D=>match trV (Gd N) r with
        | some r'=>match h with
         | []=>some (⟨dead,D,some (d,r')⟩,some (ψ/\QX P g us hsC (Gives r outs)))
         | _=>match dead with
          | []=>some (⟨[],D.filter (λp=>!(XJ h p.1)),some (d,r')⟩,some ((ψ/\QX P g us hsC (Gives r outs))/\Qjc hp D h))
          | _=>none
        | none=>none
       | none=>none
      | none=>none
     | none=>none
    | none=>none
    else none
   | _=>none
  | none=>none
 | .any M=>some (M,some (∀σ:St,(∀x u,f x=some u->σ.opd x=some u)->(∀b u,hp b=some u->look σ.hp b=some u)->Qf P C o σ (M.run σ)))
 | .s=>match o.dst with
  | some d=>match o.op with
   | .assign x=>match f x with
    | some v=>bif Nat.ble (d+1) n then some (⟨[],[],some (d,v)⟩,none)else none
    | none=>none
   | .move x=>match f x with
    | some v=>bif Nat.ble (d+1) n then some (⟨[],[],some (d,v)⟩,none)else none
    | none=>none
   | _=>none
  | none=>match o.op with
   | .store Tx x y=>match f x with
    | some (.loc b i off)=>match f y with
     | some v=>match hp b with
      | some (.var cs)=>match i with
       | 0=>match look T.sz Tx with
        | some k=>bif v.isV&&Nat.beq v.cells.length k&&v.cells.all V.one&&Nat.ble (off+k) cs.length then some (⟨[],[(b,.var (Kw cs off v.cells))],none⟩,none)else none
        | none=>none
       | _=>none
      | _=>none
     | none=>none
    | _=>none
   | _=>none
 | .st r rs'=>match o.dst with
  | some _=>none
  | none=>match o.op with
   | .store Tx x y=>match f x with
    | some (.loc b i off)=>match f y with
     | some v=>match hp b with
      | some (.arr z rs)=>match look T.sz Tx with
       | some k=>bif v.isV&&Nat.beq v.cells.length k&&v.cells.all V.one&&v.cells.all V.dat&&Nat.ble (off+k) z then some (⟨[],[(b,.arr z rs')],none⟩,some (rs[i]? = some r/\rs.set i (Kw r off v.cells)=rs'))else none
       | none=>none
      | _=>none
     | none=>none
    | _=>none
   | _=>none
 | .app rs' m=>match o.dst with
  | some d=>match o.op with
   | .call c=>match c.callee with
    | .builtin .append=>match c.args.toList with
     | [x,y]=>match c.argTypes.toList with
      | [Tx,Ty]=>match f x with
       | some (.own b k)=>match f y with
        | some v=>match hp b with
         | some (.arr z rs)=>match look T.es Tx with
          | some (e,z',by_)=>match look T.zv e with
           | some zs=>bif (look T.es Ty).isSome&&Nat.ble (d+1) n&&!(Nat.ble 617 b)&&Nat.beq z z'&&Nat.beq zs.length z&&!(Nat.beq z 0)&&Nat.ble by_ 32768 then match v with
            | .sl z'' us=>bif Nat.beq z z'' then some (⟨[b],[(b,.arr z rs')],some (d,.own b m)⟩,some (rs.length=k/\decide (k+us.length<=4294967296)=true/\rs++us=rs'/\k+us.length=m))else none
            | _=>none
            else none
           | none=>none
          | none=>none
         | _=>none
        | none=>none
       | _=>none
      | _=>none
     | _=>none
    | _=>none
   | _=>none
  | none=>none
def OH (obj:Bool)(o:Oper)(t:Nat)(fo:Bool)(ms:L_ Yj):L_ (It×Nat)->Nat->O_ DF
 | (.add x h _,j)::r,i+1=>bif Nat.beq x.d t&&Ix o i&&(bif fo then h else bif obj then Vf x h (ms.drop j)else alv x h (ms.drop j))then some x else OH obj o t fo ms r i
 | (.tn _,_)::r,i+1=>OH obj o t fo ms r i
 | _,_=>none
def RJ (B:St)(fo:Bool)(ms:L_ Yj)(h:L_ (It×Nat))(i:Nat)(o:Oper):Operand->O_ V
 | .tmp t=>match look B.fr t with
  | some v=>some v
  | none=>match OH false o t fo ms h i with
   | some x=>some x.v
   | none=>none
 | x=>B.opd x
def ZX (B:St)(fo:Bool)(ms:L_ Yj)(h:L_ (It×Nat))(i:Nat)(o:Oper)(b:Nat):O_ Ob:=match look B.hp b with
 | some ob=>some ob
 | none=>match OH true o b fo ms h i with
  | some x=>x.ob
  | none=>none
structure Dr where
 ri:List (It×Nat)
 ms:List Yj
 B:St
 φ:Prop
def Uj (P:Program)(C:XA)(T:GL)(n:Nat)(ops:Array Oper)(S:St):L_ Dw->L_ Oper->Nat->L_ (It×Nat)->L_ Yj->St->Prop->O_ Dr
 | [],_,_,y,ms,B,φ=>some ⟨y,ms,B,φ⟩
 | .a h sv D nf::ds,o::l,i,y,ms,B,φ=>match Ew ops o (λt=>RJ (bif D&&!nf then S else B) (D&&!nf) ms y i o (.tmp t))with
  | some true=>match o.dst with
   | some d=>bif Nat.ble (d+1) n then match ev1 P C T h o d (RJ (bif D&&!nf then S else B) (D&&!nf) ms y i o) (ZX (bif D&&!nf then S else B) (D&&!nf) ms y i o)with
    | some ⟨v,ob,q⟩=>match sv with
     | none=>Uj P C T n ops S ds l (i+1) ((.add ⟨d,v,ob⟩ D nf,ms.length)::y) ms B (RG φ q)
     | some (mm,u)=>Uj P C T n ops S ds l (i+1) ((.add ⟨d,u,ob⟩ D nf,ms.length)::y) ms B (RG φ q/\v.denil mm=u)
    | none=>none
    else none
   | none=>none
  | some false=>match o.dst with
   | some d=>bif Nat.ble (d+1) n then Uj P C T n ops S ds l (i+1) ((.add ⟨d,.lit undef,none⟩ D nf,ms.length)::y) ms B φ else none
   | none=>none
  | none=>none
 | .m md::ds,o::l,i,y,ms,B,φ=>match Ew ops o (λt=>RJ B false ms y i o (.tmp t))with
  | some true=>match mu1 P C T n md o (RJ B false ms y i o) (ZX B false ms y i o)with
   | some (M,q)=>Uj P C T n ops S ds l (i+1) ((.tn M,ms.length)::y) (ms++[M]) (M.run B) (RG φ q)
   | none=>none
  | _=>none
 | _::_,[],_,_,_,_,_=>none
def Yy (h:L_ (It×Nat)):L_ It:=(h.map Prod.fst).reverse
section
variable {P:Program}{C:XA}{T:GL}{Q:Exit->St->Prop}{n:Nat}{ops:Array Oper}{base S:St}{ks:L_ Fr}
def Qgt {md:MD}{o:Oper}{f:Operand->O_ V}{hp:Nat->O_ Ob}{M:Yj}{q:O_ Prop}{σ:St}(ok:WT P T)(hN:Jq P C n)(e:mu1 P C T n md o f hp=some (M,q))(hq:match q with | none=>True | some p=>p)
  (h1:∀x u,f x=some u->σ.opd x=some u) (h2:∀b u,hp b=some u->look σ.hp b=some u):Qf P C o σ (M.run σ):=by
 have hn:=hN.n
 have hpg:=hN.g
 unfold mu1 at e
 cases md with
 | any M0=>cases e;exact hq σ h1 h2
 | cm en M0 N dead ms outs r same=>
  dsimp only at e
  split at e
  ·rename_i d hd
   split at e
   ·rename_i c ho
    replace e:=XV e;obtain⟨D,e⟩:=e
    simp only[QL]at D
    obtain⟨⟨⟨g1,g2⟩,g3⟩,g4⟩:=D
    rw[<-hn]at g4
    have g1:=Qjb (σ:=σ) g1
    have g2:=Dh.1 g2
    have g3:=Dh.1 g3
    have inj:FY M0=true/\FY N=true:=by
     simp only[DK,QL]at g1
     exact⟨g1.1.1.1,g1.1.1.2⟩
    have mM:∀a b,Gd M0 a=some b->look M0 b=some a:=λa b h=>KE inj.1 (CP h) g2
    have mN:∀a b,Gd N a=some b->look N b=some a:=λa b h=>KE inj.2 (CP h) g3
    split at e
    ·rename_i g vs ψ hent
     split at e
     ·rename_i us hus
      split at e
      ·rename_i hsC hC
       split at e
       ·rename_i hsN hN
        split at e
        ·rename_i r' hr
         have call:ψ/\QX P g us hsC (Gives r outs)->Qf P C o σ ((σ.after dead hsN).put d r'):=λhq=>
          Qf.callM (g:=false) (Qja (C:=C) ok ho hent hq.1 h1 h2) hd g4 hpg g1 g2 (IP mM hus) (Gh mM (QjT h2 hC)) hq.2 (Gh mN hN) (Md mN hr)
         split at e
         ·cases e
          unfold Yj.run
          dsimp only
          rw[ZW];exact call hq
         split at e
         ·cases e
          obtain⟨hq1,hq2⟩:=hq
          intro a w hR K Q hK
          refine call hq1 a w hR K Q λa' w' hR'=>hK a' w' (R.congrHp ?_ (λo=>?_) hR')
          ·unfold Yj.run;dsimp only;rw[ZW];rfl
          unfold Yj.run;dsimp only;rw[ZW]
          show look (_++σ.hp) o=look (_++σ.hp) o
          rw[ER,ER,Qim]
          by_cases hm:XJ same o=true
          ·rw[if_pos hm]
           have:=QjU hq2 o hm
           cases hl:look hsN o with
           | none=>rfl
           | some ob=>rw[hl]at this;exact h2 o ob this
          rw[if_neg hm]
         cases e
        cases e
       cases e
      cases e
     cases e
    cases e
   cases e
  cases e
 | s=>
  dsimp only at e
  split at e
  ·rename_i d hd
   split at e
   ·rename_i x ho
    split at e
    ·rename_i v hv
     replace e:=XV e;obtain⟨D,e⟩:=e
     rw[<-hn]at D
     cases e;exact Qf.assign ho hd D (h1 _ _ hv)
    cases e
   ·rename_i x ho
    split at e
    ·rename_i v hv
     replace e:=XV e;obtain⟨D,e⟩:=e
     rw[<-hn]at D
     cases e;exact Qf.move ho hd D (h1 _ _ hv)
    cases e
   cases e
  rename_i hd
  split at e
  ·rename_i Tx x y ho
   split at e
   ·rename_i b i off hx
    split at e
    ·rename_i v hv
     split at e
     ·rename_i cs hb
      split at e
      ·split at e
       ·rename_i k hk
        replace e:=XV e;obtain⟨e2,e⟩:=e
        cases e
        simp only[QL]at e2
        obtain⟨⟨⟨a1,a2⟩,a3⟩,a4⟩:=e2
        exact Qf.storeL ho hd (h1 _ _ hx) (h2 _ _ hb) (h1 _ _ hv) (V.isV_or a1) (ok.sz hk) (YE a2) a3 a4 rfl
       cases e
      cases e
     cases e
    cases e
   cases e
  cases e
 | st r rs'=>
  dsimp only at e
  split at e
  ·cases e
  rename_i hd
  split at e
  ·rename_i Tx x y ho
   split at e
   ·rename_i b i off hx
    split at e
    ·rename_i v hv
     split at e
     ·rename_i z rs hb
      split at e
      ·rename_i k hk
       replace e:=XV e;obtain⟨e2,e⟩:=e
       cases e
       simp only[QL]at e2
       obtain⟨⟨⟨⟨a1,a2⟩,a3⟩,a4⟩,a5⟩:=e2
       exact Qf.storeA ho hd (h1 _ _ hx) (h2 _ _ hb) hq.1 (h1 _ _ hv) (V.isV_or a1) (ok.sz hk) (YE a2) a3 a4 a5 hq.2
      cases e
     cases e
    cases e
   cases e
  cases e
 | app rs' m=>
  dsimp only at e
  split at e
  ·rename_i d hd
   split at e
   ·rename_i c ho
    obtain⟨ce,ags,ts⟩:=c
    split at e
    ·rename_i hce
     dsimp only at hce e;subst hce
     split at e
     ·rename_i x y hxy
      split at e
      ·rename_i Tx Ty hT
       split at e
       ·rename_i b k hx
        split at e
        ·rename_i v hv
         split at e
         ·rename_i z rs hb
          split at e
          ·rename_i et z' by_ hes
           split at e
           ·rename_i zs hz
            replace e:=XV e;obtain⟨D,e⟩:=e
            simp only[QL,Wy]at D
            obtain⟨⟨⟨⟨⟨⟨a1,a2⟩,a3⟩,a4⟩,a5⟩,a6⟩,a7⟩:=D
            have a4:=YE a4;subst a4
            have a5:=YE a5
            have a6:z≠0:=λh0=>by rw[h0]at a6;cases a6
            rw[<-hn]at a2
            obtain⟨⟨e2,z2,by2⟩,hU⟩:∃q,Yo P Ty=some q:=by
             cases hl:look T.es Ty with
             | none=>rw[hl]at a1;cases a1
             | some q=>exact⟨q,ok.es hl⟩
            have ea:ags=#[x,y]:=by rw[<-Qbc (xs:=ags),hxy]
            have et:ts=#[Tx,Ty]:=by rw[<-Qbc (xs:=ts),hT]
            subst ea;subst et
            split at e
            ·rename_i z'' us
             replace e:=XV e;obtain⟨e3,e⟩:=e
             have:=YE e3;subst this
             cases e
             obtain⟨h4,h5,h6,h7⟩:=hq
             exact Qf.appS ho hd a2 (h1 _ _ hx) (h2 _ _ hb) a3 h4 (ok.es hes) hU (ok.zv hz) a5 a6 a7 h5 (h1 _ _ hv) h6 h7
            cases e
           cases e
          cases e
         cases e
        cases e
       cases e
      cases e
     cases e
    cases e
   cases e
  cases e
def Qbt {obj:Bool}{o:Oper}{t:Nat}{fo:Bool}{ms:L_ Yj}:∀{ri:L_ (It×Nat)} {i:Nat} {x:DF},i=ri.length->OH obj o t fo ms ri i=some x->
  ∃k D nf j,ri.reverse[k]? = some (.add x D nf,j)/\Ix o k=true/\x.d=t/\(bif fo then D else bif obj then Vf x D (ms.drop j)else alv x D (ms.drop j))=true:=by
 intro ri
 induction ri with
 | nil=>intro i x hi h;subst hi;cases h
 | cons y ri ih=>
  intro i x hi h
  subst hi
  have up:∀{x:DF},(∃k D nf j,ri.reverse[k]? = some (.add x D nf,j)/\Ix o k=true/\x.d=t/\(bif fo then D else bif obj then Vf x D (ms.drop j)else alv x D (ms.drop j))=true)->∃k D nf j,(y::ri).reverse[k]? = some (.add x D nf,j)/\Ix o k=true/\x.d=t/\(bif fo then D else bif obj then Vf x D (ms.drop j)else alv x D (ms.drop j))=true:=by
   rintro x ⟨k,D,nf,j,h1,h2⟩
   refine⟨k,D,nf,j,?_,h2⟩
   rw[List.reverse_cons,YL (Xe.1 h1).1];exact h1
  obtain⟨it,j⟩:=y
  cases it with
  | tn M=>rw[DG,OH]at h;exact up (ih rfl h)
  | add z D nf=>
   rw[DG,OH]at h
   cases hb:(Nat.beq z.d t&&Ix o ri.length&&(bif fo then D else bif obj then Vf z D (ms.drop j)else alv z D (ms.drop j)))with
   | true=>
    rw[hb]at h;cases h
    simp only[QL]at hb
    exact⟨ri.length,D,nf,j,by simp,hb.1.2,YE hb.1.1,hb.2⟩
   | false=>rw[hb]at h;exact up (ih rfl h)
def ZY {o:Oper}{f:Nat->O_ V}{σ:St}{b:Bool}(h:Ew ops o f=some b)(hx:∀t u,f t=some u->look σ.fr t=some u):Ew ops o (look σ.fr)=some b:=by
 unfold Ew at h ⊢
 cases hg:o.guard with
 | none=>simp only[hg]at h ⊢;exact h
 | some p=>
  obtain⟨j,t⟩:=p
  simp only[hg]at h ⊢
  cases hj:ops[j]? with
  | none=>simp only[hj]at h;cases h
  | some oj=>
   simp only[hj]at h ⊢
   cases D:oj.dst with
   | none=>simp only[D]at h;cases h
   | some d=>
    simp only[D]at h ⊢
    cases y:f d with
    | none=>simp only[y]at h;cases h
    | some v=>
     have:=hx d v y
     simp only[y]at h
     simp only[this]
     exact h
def JB.want {o:Oper}{σ σ':St}(h:Ew ops o (look σ.fr)=some true)(hs:Qf P C o σ σ'):JB P C ops o σ σ':=by
 rcases OS h with⟨D,_⟩|⟨j,t,d',D,hj,⟨u,hu,y⟩|⟨_,y⟩⟩
 ·exact JB.run D hs
 ·exact JB.runG D hj hu (by simpa using y.symm) hs
 cases y
def JB.unwant {o:Oper}{σ:St}{d:Nat}(h:Ew ops o (look σ.fr)=some false)(hd:o.dst=some d)(hn:B_ d C):JB P C ops o σ (σ.put d (.lit undef)):=by
 rcases OS h with⟨_,y⟩|⟨j,t,d',hg,hj,⟨u,D,y⟩|⟨D,_⟩⟩
 ·cases y
 ·have:u=!t:=by cases u<;>cases t<;>first | rfl | cases y
  exact JB.pass hg hj D this hd hn
 exact JB.passU hg hj D hd hn
def QfI (ok:WT P T)(hN:Jq P C n){D:Dr}:∀(ds:L_ Dw) {l:L_ Oper} {i:Nat} {ri:L_ (It×Nat)} {ms:L_ Yj} {B:St} {φ:Prop},Uj P C T n ops S ds l i ri ms B φ=some D->i=ri.length->l=ops.toList.drop i->ms=Xu (Yy ri)->B=MB base ms->
  (∀k it j,ri.reverse[k]? = some (it,j)->j=j0 (Yy ri) k)->D.φ->
  φ/\D.ri.length=i+ds.length/\(∃r,Yy D.ri=Yy ri++r)/\D.ms=Xu (Yy D.ri)/\D.B=MB base D.ms/\(∀k it j,D.ri.reverse[k]? = some (it,j)->j=j0 (Yy D.ri) k)/\
   ∀k o it,i<=k->ops[k]? = some o->(Yy D.ri)[k]? = some it->VS P C ops base S (Yy D.ri) k o it:=by
 have hn:=hN.n
 intro ds
 induction ds with
 | nil=>
  intro l i ri ms B φ h hi hl hms hB hj hφ
  cases h
  refine⟨hφ,by simp[hi],⟨[],by simp⟩,hms,hB,hj,λk o it hk ho hit=>?_⟩
  have:=(Xe.1 hit).1
  simp[Yy]at this;omega
 | cons d ds ih=>
  intro l i ri ms B φ h hi hl hms hB hj hφ
  cases l with
  | nil=>cases d<;>cases h
  | cons o l=>
   have ho:ops[i]? = some o:=by
    have:=congrArg (λx=>x[0]?) hl
    simpa using this.symm
   have hl':l=ops.toList.drop (i+1):=by
    have:=congrArg List.tail hl
    simpa using this
   have hlen:(Yy ri).length=i:=by simp[Yy,hi]
   have grow:∀(it:It) (φ0:Prop) (ms':L_ Yj) (B':St),ms'=Xu (Yy ri++[it])->B'=MB base ms'->Uj P C T n ops S ds l (i+1) ((it,ms.length)::ri) ms' B' φ0=some D->
     (φ0->φ/\∀its:L_ It,(∃r,its=Yy ri++(it::r))->VS P C ops base S its i o it)->
     φ/\D.ri.length=i+(ds.length+1)/\(∃r,Yy D.ri=Yy ri++r)/\D.ms=Xu (Yy D.ri)/\D.B=MB base D.ms/\(∀k it j,D.ri.reverse[k]? = some (it,j)->j=j0 (Yy D.ri) k)/\
      ∀k o it,i<=k->ops[k]? = some o->(Yy D.ri)[k]? = some it->VS P C ops base S (Yy D.ri) k o it:=by
    intro it φ0 ms' B' hms' hB' h hstep
    have hio:Yy ((it,ms.length)::ri)=Yy ri++[it]:=by simp[Yy]
    obtain⟨h1,h2,⟨r,h3⟩,h4,h5,h6,h7⟩:=ih h (by simp[hi]) hl' (by rw[hio];exact hms') hB' (λk it' j hk=>by
     rw[hio]
     rw[List.reverse_cons]at hk
     by_cases hlt:k<ri.length
     ·rw[YL (by simpa using hlt)]at hk
      rw[hj k it' j hk];unfold j0
      rw[Qcm (by omega)]
     rw[Jx (by simp;omega)]at hk
     have:k-ri.reverse.length=0:=by
      have:=(Xe.1 hk).1;simpa using this
     rw[this]at hk;simp at hk
     obtain⟨rfl,rfl⟩:=hk
     have hk2:k=ri.length:=by simp at this;omega
     unfold j0
     rw[Qcm (by omega),hms,UB (by omega)]) hφ
    obtain⟨h8,h9⟩:=hstep h1
    rw[hio,De]at h3
    refine⟨h8,by omega,⟨_,h3⟩,h4,h5,h6,λk o' it' hk ho' hit=>?_⟩
    rcases DH i k with hlt | hge
    ·exact h7 k o' it' hlt ho' hit
    have:k=i:=by omega
    subst this
    rw[ho]at ho';cases ho'
    have:(Yy D.ri)[k]? = some it:=by rw[h3,Jx (by omega),hlen];simp
    rw[this]at hit;cases hit
    exact h9 _ ⟨r,h3⟩
   have place:∀{its:L_ It} {it:It} {r:L_ It},its=Yy ri++(it::r)->(Xu its).take (j0 its i)=ms/\∀k it' j,ri.reverse[k]? = some (it',j)->its[k]? = some it'/\j=j0 its k:=by
    intro its it r hits
    have h1:its.take i=Yy ri:=by rw[hits,Qcm (by omega),UB (by omega)]
    refine⟨?_,λk it' j hk=>⟨?_,?_⟩⟩
    ·unfold j0;rw[h1,hits,Ac,<-hms];simp
    ·have hk2:(Yy ri)[k]? = some it':=by simp only[Yy,<-List.map_reverse,Yb,hk,DJ]
     rw[hits,YL (Xe.1 hk2).1];exact hk2
    have hkl:=(Xe.1 hk).1
    rw[hj k it' j hk];unfold j0
    rw[hits,Qcm (by simp at hkl;omega)]
   have envB:∀{its:L_ It} {it:It} {r:L_ It} {σ:St},its=Yy ri++(it::r)->Gw σ B->(∀k y fl nf,its[k]? = some (.add y fl nf)->Ix o k=true->MC σ y fl (ms.drop (j0 its k)))->
     (∀x u,RJ B false ms ri i o x=some u->σ.opd x=some u)/\∀b u,ZX B false ms ri i o b=some u->look σ.hp b=some u:=by
    intro its it r σ hits hsub hdep
    have dep:∀{t:Nat} {x:DF},OH false o t false ms ri i=some x->look σ.fr x.d=some x.v/\x.d=t:=λhf=>by
     obtain⟨k,fl,nf,j,g1,g2,g3,g4⟩:=Qbt hi hf
     obtain⟨g5,g6⟩:=(place hits).2 k _ j g1
     exact⟨(hdep k _ fl nf g5 g2).1 (by rw[<-g6];exact g4),g3⟩
    have depO:∀{t:Nat} {x:DF},OH true o t false ms ri i=some x->(∀ob,x.ob=some ob->look σ.hp x.d=some ob)/\x.d=t:=λhf=>by
     obtain⟨k,fl,nf,j,g1,g2,g3,g4⟩:=Qbt hi hf
     obtain⟨g5,g6⟩:=(place hits).2 k _ j g1
     exact⟨(hdep k _ fl nf g5 g2).2 (by rw[<-g6];exact g4),g3⟩
    refine⟨λx u hx=>?_,λb u hx=>?_⟩
    ·cases x with
     | tmp t=>
      simp only[RJ]at hx
      split at hx
      ·rename_i v hv;cases hx;exact hsub.1 _ _ hv
      split at hx
      ·rename_i y hy;cases hx;obtain⟨g1,g2⟩:=dep hy;subst g2;exact g1
      cases hx
     | const v=>exact hx
     | global g=>exact hx
     | func f=>exact hx
    simp only[ZX]at hx
    split at hx
    ·rename_i v hv;cases hx;exact hsub.2 _ _ hv
    split at hx
    ·rename_i y hy;obtain⟨g1,g2⟩:=depO hy;subst g2;exact g1 _ hx
    cases hx
   have envS:∀{its:L_ It} {it:It} {r:L_ It} {σ:St},its=Yy ri++(it::r)->Gw σ S->(∀k y nf,its[k]? = some (.add y true nf)->Ix o k=true->ZK σ y)->
     (∀x u,RJ S true ms ri i o x=some u->σ.opd x=some u)/\∀b u,ZX S true ms ri i o b=some u->look σ.hp b=some u:=by
    intro its it r σ hits hsub hdep
    have dep:∀{b:Bool} {t:Nat} {x:DF},OH b o t true ms ri i=some x->ZK σ x/\x.d=t:=λhf=>by
     obtain⟨k,fl,nf,j,g1,g2,g3,g4⟩:=Qbt hi hf
     obtain⟨g5,g6⟩:=(place hits).2 k _ j g1
     have:fl=true:=g4
     subst this
     exact⟨hdep k _ nf g5 g2,g3⟩
    refine⟨λx u hx=>?_,λb u hx=>?_⟩
    ·cases x with
     | tmp t=>
      simp only[RJ]at hx
      split at hx
      ·rename_i v hv;cases hx;exact hsub.1 _ _ hv
      split at hx
      ·rename_i y hy;cases hx;obtain⟨g1,g2⟩:=dep hy;subst g2;exact g1.1
      cases hx
     | const v=>exact hx
     | global g=>exact hx
     | func f=>exact hx
    simp only[ZX]at hx
    split at hx
    ·rename_i v hv;cases hx;exact hsub.2 _ _ hv
    split at hx
    ·rename_i y hy;obtain⟨g1,g2⟩:=dep hy;subst g2;exact g1.2 _ hx
    cases hx
   have addOK:∀{x:DF} {fl nf:Bool} {φ0:Prop},Uj P C T n ops S ds l (i+1) ((.add x fl nf,ms.length)::ri) ms B φ0=some D->
     (φ0->φ/\∀σ,(∀y u,RJ (bif fl&&!nf then S else B) (fl&&!nf) ms ri i o y=some u->σ.opd y=some u)->(∀b u,ZX (bif fl&&!nf then S else B) (fl&&!nf) ms ri i o b=some u->look σ.hp b=some u)->(x.ob.isSome=true->look σ.hp x.d=none)->JB P C ops o σ (σ.addF x))->
     φ/\D.ri.length=i+(ds.length+1)/\(∃r,Yy D.ri=Yy ri++r)/\D.ms=Xu (Yy D.ri)/\D.B=MB base D.ms/\(∀k it j,D.ri.reverse[k]? = some (it,j)->j=j0 (Yy D.ri) k)/\
      ∀k o it,i<=k->ops[k]? = some o->(Yy D.ri)[k]? = some it->VS P C ops base S (Yy D.ri) k o it:=by
    intro x fl nf φ0 h hs
    refine grow (.add x fl nf) φ0 ms B (by rw[Ac];simp[Xu,hms]) hB h λh0=>?_
    obtain⟨g1,g2⟩:=hs h0
    refine⟨g1,λits ⟨r,hits⟩=>?_⟩
    dsimp only[VS]
    generalize (fl&&!nf)=ff at g2 ⊢
    cases ff with
    | true=>exact λσ hsub hdep hf=>let ⟨a,b⟩:=envS hits hsub hdep;g2 σ a b hf
    | false=>
     intro σ hsub hdep hf
     rw[(place hits).1,<-hB]at hsub
     rw[(place hits).1]at hdep
     obtain⟨a,b⟩:=envB hits hsub hdep
     exact g2 σ a b hf
   cases d with
   | a h0 sv fl nf=>
    rw[Uj]at h
    split at h
    ·rename_i hw
     split at h
     ·rename_i dd hd
      replace h:=XV h;obtain⟨e1,h⟩:=h
      rw[<-hn]at e1
      have stp:∀{v:V} {ob:O_ Ob} {q:O_ Prop} {σ:St},ev1 P C T h0 o dd (RJ (bif fl&&!nf then S else B) (fl&&!nf) ms ri i o) (ZX (bif fl&&!nf then S else B) (fl&&!nf) ms ri i o)=some ⟨v,ob,q⟩->Rs.holds ⟨v,ob,q⟩->
        (∀x u,RJ (bif fl&&!nf then S else B) (fl&&!nf) ms ri i o x=some u->σ.opd x=some u)->(∀b u,ZX (bif fl&&!nf then S else B) (fl&&!nf) ms ri i o b=some u->look σ.hp b=some u)->(ob.isSome=true->look σ.hp dd=none)->JB P C ops o σ (σ.addF ⟨dd,v,ob⟩):=
       λhe hq hx hh hf=>JB.want (ZY hw λt u ht=>hx (.tmp t) u ht) (Qbm ok hd e1 hN.g hx hh he hq hf)
      split at h
      ·rename_i v ob q he
       split at h
       ·exact addOK h λh1=>let ⟨a,b⟩:=RH h1;⟨a,λσ hx hh hf=>stp he b hx hh hf⟩
       refine addOK h λh1=>?_
       obtain⟨h1,h2⟩:=h1
       subst h2
       obtain⟨a,b⟩:=RH h1
       exact⟨a,λσ hx hh hf=>(stp he b hx hh hf).denil⟩
      cases h
     cases h
    ·rename_i hw
     split at h
     ·rename_i dd hd
      replace h:=XV h;obtain⟨e1,h⟩:=h
      rw[<-hn]at e1
      exact addOK h λh1=>⟨h1,λσ hx hh hf=>JB.unwant (ZY hw λt u ht=>hx (.tmp t) u ht) hd e1⟩
     cases h
    cases h
   | m md=>
    rw[Uj]at h
    split at h
    ·rename_i hw
     split at h
     ·rename_i M q he
      refine grow (.tn M) (RG φ q) (ms++[M]) (M.run B) (by rw[Ac];simp[Xu,hms]) (by rw[Qet,<-hB];rfl) h λh1=>?_
      obtain⟨a,b⟩:=RH (v:=.J) (ob:=none) h1
      refine⟨a,λits ⟨r,hits⟩ σ hsub hdep=>?_⟩
      rw[(place hits).1,<-hB]at hsub
      rw[(place hits).1]at hdep
      obtain⟨hx,hh⟩:=envB hits hsub hdep
      refine JB.want (ZY hw λt u ht=>hx (.tmp t) u ht) (Qgt ok hN he ?_ hx hh)
      cases q with
      | none=>trivial
      | some p=>exact b
     cases h
    cases h
def IR (ms:L_ Yj):L_ (It×Nat)->S_
 | []=>[]
 | (.add x h _,j)::r=>bif alv x h (ms.drop j)then(x.d,x.v)::IR ms r else IR ms r
 | (.tn _,_)::r=>IR ms r
def Hc (ms:L_ Yj):L_ (It×Nat)->H_
 | []=>[]
 | (.add x h _,j)::r=>bif Vf x h (ms.drop j)then(match x.ob with | some ob=>(x.d,ob)::Hc ms r | none=>Hc ms r)else Hc ms r
 | (.tn _,_)::r=>Hc ms r
def okV (ops:Array Oper)(base S:St)(D:Dr):Bool:=QfA ops&&QkS ops (Yy D.ri)&&QhA base (Yy D.ri)&&QfG ops D.ms (Yy D.ri)&&QfH ops (Yy D.ri) D.ms S&&Qi6 ops (Yy D.ri)
def NN {α:Type}{l:L_ (Nat×α)}:∀{y:L_ Nat} {r:L_ (Nat×α)},Gg l y=some r->∀p∈r,look l p.1=some p.2:=by
 intro y
 induction y with
 | nil=>intro r h p hp;cases h;cases hp
 | cons t y ih=>
  intro r h p hp
  rw[Gg]at h
  split at h
  ·rename_i v hv
   split at h
   ·rename_i r' D
    cases h
    rcases XQ.1 hp with rfl | hp
    ·exact hv
    exact ih D p hp
   cases h
  cases h
def QhC {fr:S_}:∀{l:S_},(∀p∈l,look fr p.1=some p.2)->HI fr l:=by
 intro l
 induction l with
 | nil=>intro _;trivial
 | cons p l D=>intro h;exact⟨h p YF,D λq y=>h q (Jz _ y)⟩
def QhD {fr:H_}:∀{l:H_},(∀p∈l,look fr p.1=some p.2)->UD fr l:=by
 intro l
 induction l with
 | nil=>intro _;trivial
 | cons p l D=>intro h;exact⟨h p YF,D λq y=>h q (Jz _ y)⟩
def AK.draw2 {id:Nat}(ok:WT P T)(hN:Jq P C n)(hmix:P.follows .mixedOrders=true)(ds:L_ Dw)(sts sos ts os:L_ Nat){sf:S_}{sh:H_}{fr:S_}{hp:H_}{ri:L_ (It×Nat)}{ms:L_ Yj}{B:St}{φ:Prop}
  (hS1:Gg base.fr sts=some sf) (hS2:Gg base.hp sos=some sh)
  (e:Uj P C T n ops ⟨sf,sh⟩ ds ops.toList 0 [] [] base True=some ⟨ri,ms,B,φ⟩) (hφ:φ) (hl:ds.length=ops.size) (hk:okV ops base ⟨sf,sh⟩ ⟨ri,ms,B,φ⟩=true)
  (hf1:Gg (IR ms ri++B.fr) ts=some fr) (hf2:Gg (Hc ms ri++B.hp) os=some hp) (hc:St.closed ⟨fr,hp⟩=true) (k:AK P C Q (.x .normal) ks ⟨fr,hp⟩):AK P C Q (.c (.region id ops true)) ks base:=by
 have hn:=hN.n
 obtain⟨D,hD⟩:∃D:Dr,D=⟨ri,ms,B,φ⟩:=⟨_,rfl⟩
 rw[<-hD]at e hk
 have hφ:D.φ:=by rw[hD];exact hφ
 have hf1:Gg (IR D.ms D.ri++D.B.fr) ts=some fr:=by rw[hD];exact hf1
 have hf2:Gg (Hc D.ms D.ri++D.B.hp) os=some hp:=by rw[hD];exact hf2
 clear hD
 simp only[okV,QL]at hk
 obtain⟨⟨⟨⟨⟨k1,k2⟩,k3⟩,k4⟩,k5⟩,k6⟩:=hk
 obtain⟨_,h2,_,h4,h5,h6,h7⟩:=QfI (base:=base) ok hN ds e rfl rfl rfl rfl (λk it j h=>by simp at h) hφ
 have hlen:(Yy D.ri).length=ops.size:=by simp[Yy];omega
 rw[h4]at k4 k5
 have hS:Gw base ⟨sf,sh⟩:=⟨λt v h=>by
  have:=NN hS1 (t,v) (Je h);exact this,λp ob h=>by have:=NN hS2 (p,ob) (Je h);exact this⟩
 refine AK.drawV hmix hlen k1 k2 k3 k6 k4 k5 hS (λi o it ho hit=>h7 i o it (Nat.zero_le _) ho hit) λσ hsub hadd=>?_
 rw[<-h4,<-h5]at hsub
 have hadd':∀x fl nf j,(It.add x fl nf,j)∈D.ri->MC σ x fl (D.ms.drop j):=by
  intro x fl nf j hm
  obtain⟨i,hi⟩:=List.getElem?_of_mem (List.mem_reverse.2 hm)
  have hj:=h6 i _ j hi
  rw[hj,h4]
  refine hadd i x fl nf ?_
  simp only[Yy,<-List.map_reverse,Yb,hi,DJ]
 have frOK:∀{ri:L_ (It×Nat)},(∀q∈ri,q∈D.ri)->∀{t:Nat} {v:V},look (IR D.ms ri) t=some v->look σ.fr t=some v:=by
  intro ri
  induction ri with
  | nil=>intro _ t v h;cases h
  | cons y ri ih=>
   intro hm t v h
   have hm':=λq hq=>hm q (Jz _ hq)
   obtain⟨it,j⟩:=y
   cases it with
   | tn M=>exact ih hm' h
   | add x fl nf=>
    rw[IR]at h
    cases hal:alv x fl (D.ms.drop j)with
    | false=>rw[hal]at h;exact ih hm' h
    | true=>
     rw[hal]at h
     have h:look ((x.d,x.v)::IR D.ms ri) t=some v:=h
     by_cases e:x.d=t
     ·subst e;rw[QC]at h;cases h;exact(hadd' x fl nf j (hm _ YF)).1 hal
     rw[QA _ _ e]at h;exact ih hm' h
 have hpOK:∀{ri:L_ (It×Nat)},(∀q∈ri,q∈D.ri)->∀{t:Nat} {v:Ob},look (Hc D.ms ri) t=some v->look σ.hp t=some v:=by
  intro ri
  induction ri with
  | nil=>intro _ t v h;cases h
  | cons y ri ih=>
   intro hm t v h
   have hm':=λq hq=>hm q (Jz _ hq)
   obtain⟨it,j⟩:=y
   cases it with
   | tn M=>exact ih hm' h
   | add x fl nf=>
    rw[Hc]at h
    cases hal:Vf x fl (D.ms.drop j)with
    | false=>rw[hal]at h;exact ih hm' h
    | true=>
     rw[hal]at h
     cases hob:x.ob with
     | none=>rw[hob]at h;exact ih hm' h
     | some ob=>
      rw[hob]at h
      have h:look ((x.d,ob)::Hc D.ms ri) t=some v:=h
      by_cases e:x.d=t
      ·subst e;rw[QC]at h;cases h;exact(hadd' x fl nf j (hm _ YF)).2 hal _ hob
      rw[QA _ _ e]at h;exact ih hm' h
 refine AK.weaken (λa w hR=>hR.to (QhC λp hp'=>?_) (QhD λp hp'=>?_) hc) k
 ·have:=NN hf1 p hp'
  rw[ER]at this
  cases hl:look (IR D.ms D.ri) p.1 with
  | some v=>rw[hl]at this;cases this;exact frOK (λ_ h=>h) hl
  | none=>rw[hl]at this;exact hsub.1 _ _ this
 have:=NN hf2 p hp'
 rw[ER]at this
 cases hl:look (Hc D.ms D.ri) p.1 with
 | some v=>rw[hl]at this;cases this;exact hpOK (λ_ h=>h) hl
 | none=>rw[hl]at this;exact hsub.2 _ _ this
end
def Qf.callSame {P:Program}{C:XA}{T:GL}{n:Nat}{o:Oper}{md:MD}{f:Operand->O_ V}{hp:Nat->O_ Ob}{σ:St}{d:Nat}{v:V}{q:Prop}(ok:WT P T)(D:Jq P C n)(h:∀x u,f x=some u->σ.opd x=some u)(y:∀b u,hp b=some u->look σ.hp b=some u)
  (e:mu1 P C T n md o f hp=some (⟨[],[],some (d,v)⟩,some q)) (hq:q):Qf P C o σ (σ.addF ⟨d,v,none⟩):=Qgt (q:=some q) ok D e hq h y
def Qev {α:Type}{f:α->L_ V}{l:L_ α}{k h:Nat}:((l.map f).drop k).take (h-k)=((l.drop k).take (h-k)).map f:=by simp
def dropL {α:Type}{l:L_ α}{k:Nat}:l.length-k=(l.drop k).length:=Fp.symm
section
variable {P:Program}{C:XA}{σ:St}{o:Oper}
def QfJ (P:Program)(T:TypeId)(k:IntKind):Bool:=match P.underlying T with
 | some (.int q)=>ikB q k
 | _=>false
def QhE {T:TypeId}{k:IntKind}(h:QfJ P T k=true):P.underlying T=some (.int k):=by
 unfold QfJ at h
 split at h
 ·rename_i q y;rw[y,Qhl h]
 cases h
def Qf.convI {S T d:Nat}{x:Operand}{k h:IntKind}{n:Int}(ho:o.op=.convert S T x)(D:o.dst=some d)(hn:B_ d C)(hx:σ.opd x=some (.i h n))(hs:QfJ P S h=true)(y:QfJ P T k=true):Qf P C o σ (σ.put d (.i k (k.wrap n))):=by
 refine Qf.same D hn λφ a w hr=>⟨.int k (k.wrap n),?_,.dat (.i _ _)⟩
 simp[execOp,ho,(hr.opd hx).i_inv,convert,run_underlying (QhE hs),run_underlying (QhE y),Conv.intToInt]
def Qjd (k:IntKind)(m n:Int):Int:=k.wrap (m*2 ^ (min n.toNat k.bits))
def Gx (k:IntKind)(m n:Int):Int:=m.fdiv (2 ^ (min n.toNat k.bits))
def Qf.shl {x y:Operand}{T U d:Nat}{k k':IntKind}{m n:Int}(ho:o.op=.binOp .shl T x y U)(D:o.dst=some d)(hn:B_ d C)(hx:σ.opd x=some (.i k m))(hy:σ.opd y=some (.i k' n))(h0:0<=n):Qf P C o σ (σ.put d (.i k (Qjd k m n))):=by
 refine Qf.same D hn λφ a w h=>⟨.int k _,?_,.dat (.i _ _)⟩
 have:¬n<0:=by omega
 simp[execOp,ho,(h.opd hx).i_inv,(h.opd hy).i_inv,eqGuard,binOp,Op.shift,this,Qjd]
def Qf.shr {x y:Operand}{T U d:Nat}{k k':IntKind}{m n:Int}(ho:o.op=.binOp .shr T x y U)(D:o.dst=some d)(hn:B_ d C)(hx:σ.opd x=some (.i k m))(hy:σ.opd y=some (.i k' n))(h0:0<=n):Qf P C o σ (σ.put d (.i k (Gx k m n))):=by
 refine Qf.same D hn λφ a w h=>⟨.int k _,?_,.dat (.i _ _)⟩
 have:¬n<0:=by omega
 simp[execOp,ho,(h.opd hx).i_inv,(h.opd hy).i_inv,eqGuard,binOp,Op.shift,this,Gx]
def DC (k:IntKind)(m n:Int):Int:=k.wrap ((BitVec.ofInt k.bits m &&& BitVec.ofInt k.bits n).toNat:Int)
def Qf.andB {x y:Operand}{T U d:Nat}{k:IntKind}{m n:Int}(ho:o.op=.binOp .and T x y U)(D:o.dst=some d)(hn:B_ d C)(hx:σ.opd x=some (.i k m))(hy:σ.opd y=some (.i k n)):Qf P C o σ (σ.put d (.i k (DC k m n))):=
 Qf.same D hn λφ a w h=>⟨.int k _,by simp[execOp,ho,(h.opd hx).i_inv,(h.opd hy).i_inv,eqGuard,binOp,Op.intBits,DC],.dat (.i _ _)⟩
def Bf : L_ V->O_ (L_ Value)
 | []=>some []
 | .i k n::r=>(Bf r).map (.int k n::·)
 | .b x::r=>(Bf r).map (.bool x::·)
 | .s x::r=>(Bf r).map (.string x::·)
 | _=>none
def QjV {φ:Nat->O_ Xa}{I:Nat->Prop}{w:World}:∀{y:L_ V} {vs xs:L_ Value},Bf y=some vs->xs.length=y.length->(∀(j:Nat) x v,xs[j]? = some x->y[j]? = some v->QO φ I w x v)->xs=vs:=by
 intro y
 induction y with
 | nil=>intro vs xs h D _;cases h;exact Qg9 D
 | cons c y ih=>
  intro vs xs h D hr
  cases xs with
  | nil=>cases D
  | cons x xs=>
   have h0:=hr 0 x c rfl rfl
   have hi:∀{us:L_ Value},Bf y=some us->xs=us:=λe=>ih e (by simpa using D) λj x v a b=>hr (j+1) x v a b
   cases c with
   | i k n=>simp only[Bf,XZ]at h;obtain⟨us,e,rfl⟩:=h;rw[h0.i_inv,hi e]
   | b k=>simp only[Bf,XZ]at h;obtain⟨us,e,rfl⟩:=h;rw[h0.b_inv,hi e]
   | s k=>simp only[Bf,XZ]at h;obtain⟨us,e,rfl⟩:=h;rw[h0.s_inv,hi e]
   | _=>cases h
def QO.aggVals {φ:Nat->O_ Xa}{I:Nat->Prop}{w:World}{x:Value}{y:L_ V}{vs:L_ Value}(h:QO φ I w x (.agg y))(hv:Bf y=some vs):x=.agg vs.toArray:=by
 obtain⟨xs,rfl,hs,D⟩:=h.agg_inv
 have:=QjV (xs:=xs.toList) hv (by simpa using hs) λj x v a b=>D j x v (by simpa using a) b
 rw[<-this]
def EqT (P:Program)(T:TypeId)(vs us:L_ Value)(r:Bool):Prop:=P.eqGuardType P.depth T=false/\∀w,(Op.equalIn 10000 T (.agg vs.toArray) (.agg us.toArray)).run P w=.ok r w
def Qf.eqAgg {x y:Operand}{T U d:Nat}{D ds:L_ V}{vs us:L_ Value}{r:Bool}(ho:o.op=.binOp .eql T x y U)(hd:o.dst=some d)(hn:B_ d C)(hx:σ.opd x=some (.agg D))(hy:σ.opd y=some (.agg ds))(hv:Bf D=some vs)(hu:Bf ds=some us)(h:EqT P T vs us r):
  Qf P C o σ (σ.put d (.b r)):=by
 refine Qf.same hd hn λφ a w hr=>⟨.bool r,?_,.dat (.b _)⟩
 have h1:=(hr.opd hx).aggVals hv
 have h2:=(hr.opd hy).aggVals hu
 have h3:=h.2 w
 simp only[execOp,ho,h1,h2,eqGuard,Xf,run_program,Xl,h.1]
 simp[binOp,Op.equal,Op.maxDepth,h3,h.1]
def Qf.neAgg {x y:Operand}{T U d:Nat}{D ds:L_ V}{vs us:L_ Value}{r:Bool}(ho:o.op=.binOp .neq T x y U)(hd:o.dst=some d)(hn:B_ d C)(hx:σ.opd x=some (.agg D))(hy:σ.opd y=some (.agg ds))(hv:Bf D=some vs)(hu:Bf ds=some us)(h:EqT P T vs us r):
  Qf P C o σ (σ.put d (.b (!r))):=by
 refine Qf.same hd hn λφ a w hr=>⟨.bool (!r),?_,.dat (.b _)⟩
 have h1:=(hr.opd hx).aggVals hv
 have h2:=(hr.opd hy).aggVals hu
 have h3:=h.2 w
 simp only[execOp,ho,h1,h2,eqGuard,Xf,run_program,Xl,h.1]
 simp[binOp,Op.equal,Op.maxDepth,h3,h.1]
end
section
variable {P:Program}{C:XA}{σ:St}{Q:Exit->St->Prop}{ks:L_ Fr}{ops:Array Oper}{rest:L_ Oper}{o:Oper}
def AK.eqNil {x y:Operand}{T U d e z:Nat}{rows:L_ (L_ V)}(hg:o.guard=none)(ho:o.op=.binOp .eql T x y U)(hd:o.dst=some d)(hn:B_ d C)(hx:σ.opd x=some (.sl z rows))(hy:σ.opd y=some (.lit (.slice none 0 0)))(hT:P.underlying T=some (.slice e))
  (h1:rows=[]->AK P C Q (.o ops rest) ks (σ.put d (.b true))) (h2:AK P C Q (.o ops rest) ks (σ.put d (.b false))):AK P C Q (.o ops (o::rest)) ks σ:=by
 intro a w hR
 obtain⟨φ,hr⟩:=hR
 have hyv:a.eval y=.slice none 0 0:=(hr.opd hy).lit_inv
 have h:∀p l c,a.eval x=.slice p l c->(execOp a.eval o).run P w=.ok (.value (.bool p.isNone)) w:=λp l c e=>by
  simp[execOp,ho,e,hyv,eqGuard,binOp,run_equal_slice_nil w T _ p l c hT]
 have go:∀{v:Bool} {σ':St},(execOp a.eval o).run P w=.ok (.value (.bool v)) w->σ'=σ.put d (.b v)->AK P C Q (.o ops rest) ks σ'->wpListIn C.F 0 P ops (up C (unw P C Q ks)) (o::rest) a w:=λ{v σ'} e e2 k=>by
  have:Qf P C { o with op:=.move (.const (.bool v)) } σ (σ.put d (.b v)):=Qf.move rfl hd hn rfl
  simp only[wpListIn,Region.wanted,hg,if_true]
  refine⟨λ_ _=>trivial,?_⟩
  rw[Qbd e,Oper.uponIn_value]
  subst e2
  refine k _ _ ⟨φ,?_⟩
  rw[hd]
  exact hr.put (XP hn) (.dat (.b _))
 rcases(hr.opd hx).sl_inv with⟨p,c,D,h0⟩|⟨b,off,cap,D,_⟩
 ·cases p with
  | none=>exact go (h none 0 c D) rfl (h1 h0)
  | some p=>exact go (h (some p) 0 c D) rfl h2
 exact go (h _ _ _ D) rfl h2
end
section
variable {P:Program}{C:XA}{σ:St}{o:Oper}
def Qf.buildAny {T d e z by_ n:Nat}{y:Array (Nat×Operand)}{zs vs:L_ V}{qs:S_}(ho:o.op=.buildSlice T n y)(hd:o.dst=some d)(hn:B_ d C)
  (hT:Yo P T=some (e,z,by_)) (hz:XX P e=some zs) (hzl:zs.length=z) (hz0:z≠0) (hbig:n*z<=16777216) (hq:σ.opds y.toList=some qs) (hv:qs.all (λq=>q.2.isV)=true)
  (hf:Es (λi=>some (i*z,z)) ((List.range (n*z)).map λk=>zs.getD (k % z) .J) qs=some vs)
  (hfr:look σ.hp d=none):Qf P C o σ ((σ.set d (.var vs)).put d (.own d n)):=by
 refine Qf.val λφ a w hr=>?_
 obtain⟨hu,i,hi,D,_⟩:=KT hT
 obtain⟨i',zv,hi',hz',rfl⟩:=BS hz
 rw[hi]at hi';cases hi'
 have hzs:zv.cells.size=i.size:=by rw[D];simpa using hzl
 have hf0:=hf
 rw[<-D]at hf
 rw[<-ZH zv.cells n i.size hzs (by omega)]at hf
 obtain⟨xs',h1,h2,h3⟩:=hr.fill hq hv hf
 refine⟨.slice (some ⟨w.heap.size,0,none⟩) n n,w.alloc (.cells xs' e),ext φ d ⟨w.heap.size,n,1,[],0⟩,?_,?_⟩
 ·have e2:(y.map λp=>(p.1,a.eval p.2)).toList=y.toList.map λp=>(p.1,a.eval p.2):=by simp
  have hb:¬(n*i.size > 2 ^ 24):=by rw[D];omega
  by_cases hn0:n*i.size=0
  ·have hn1:n=0:=by
    rw[D]at hn0
    rcases Nat.mul_eq_zero.1 hn0 with h | h
    ·exact h
    exact absurd h hz0
   subst hn1
   simp only[Cr]at h1
   rw[Qfx,Array.map_empty]at h1
   simp only[execOp,ho,Instr.buildSlice,Xf,run_underlying hu,Xl,sizeOf,typeInfo,run_program,hi,Xx,Cr,if_true,e2,Qfx,Array.map_empty]
   simp[h1,newRow]
  simp only[execOp,ho,Instr.buildSlice,Xf,run_underlying hu,Xl,sizeOf,typeInfo,run_program,hi,Xx,if_neg hb,if_neg hn0,zeroValue,hz',e2,h1,newRow,run_newObj]
  simp
 have hN:=hr.none_of_look hfr
 have hnew:=hr.alloc (cap:=n) (z:=1) hfr (C.slot hn) (ob:=.var vs) (obj:=.cells xs' e)
  ⟨xs',e,heap_alloc_new w _,h2,rfl,λj x v hx hv'=>(h3 j x v hx hv').mono (hr.mono_ext _ hN) (hr.imm_alloc d n 1 _ hN)⟩
 rw[hd]
 refine hnew.put (XP hn) ?_
 exact .own d n ⟨w.heap.size,n,1,[],0⟩ (XD _ _ _) (YZ _)
def Qf.idxV {T d e z by_ b n m:Nat}{x y:Operand}{cs:L_ V}{k:IntKind}{j:Int}(ho:o.op=.indexAddr T x y)(hd:o.dst=some d)(hn:B_ d C)
  (hx:σ.opd x=some (.own b n)) (hy:σ.opd y=some (.i k j)) (hT:Yo P T=some (e,z,by_)) (hb:look σ.hp b=some (.var cs)) (h:(0<=j/\j<n)/\j.toNat*z=m):
  Qf P C o σ (σ.put d (.loc b 0 m)):=by
 refine Qf.same hd hn λφ a w hr=>?_
 obtain⟨⟨h,h1⟩,rfl⟩:=h
 rcases(hr.opd hx).own_inv with⟨_,rfl⟩|⟨B,hB,D,he⟩
 ·omega
 refine⟨.pointer (some ⟨B.b,B.off+(0*B.z+j.toNat*z),none⟩),?_,.loc b 0 (j.toNat*z) B hB⟩
 simp only[execOp,ho,he,(hr.opd hy).i_inv,Xf,Ry hT h h1,Xl,Xx,Addr.add_lit,Cr,Ej]
end
section
variable {P:Program}{C:XA}{Q:Exit->St->Prop}
def Rnd (P:Program)(C:XA)(Q:Exit->St->Prop)(ks:L_ Fr)(c:Code):Nat->St->Prop
 | 0,_=>False
 | n+1,σ=>AK P C Q (.c c) (.cut (Rnd P C Q ks c n)::ks) σ
def AK.rnd {ks:L_ Fr}{c:Code}{n:Nat}{σ:St}(h:AK P C Q (.c c) (.cut (Rnd P C Q ks c n)::ks) σ):Rnd P C Q ks c (n+1) σ:=h
def AK.loopN {ks:L_ Fr}{c:Code}(n:Nat){σ:St}(h:Rnd P C Q ks c n σ):AK P C Q (.c (.loop c)) ks σ:=by
 have key:∀(n:Nat) (σ:St) (a:Act) (w:World),Rnd P C Q ks c n σ->R C σ a w->Code.roundsIn C.F 0 P c (up C (unw P C Q ks)) n a w:=by
  intro n
  induction n with
  | zero=>intro σ a w h;exact h.elim
  | succ n ih=>
   intro σ a w h y
   rw[roundsIn_succ]
   refine wpIn_mono (h a w y) ?_
   rintro e a' w' ⟨σ',D,h2⟩
   cases e with
   | normal=>exact ih σ' a' w' D h2
   | _=>exact⟨σ',D,h2⟩
 exact λa w y=>wpIn_loop_rounds n (key n σ a w h y)
end
end Go.Vm
