/- A part of the proof. -/
import Derived.Test.YtomnpnjhfpdcmaaGreatDoorT4V1
import Derived.Laws.StructEq
import Derived.Laws.Cover3
set_option linter.all false
namespace Go.Vm
open Go Go.RowKit
section
variable {κ α β:Type}[DecidableEq κ]
def QR : L_ (κ×α)->κ->O_ α
 | [],_=>none
 | (a,x)::r,k=>if a=k then some x else QR r k
def NP (lt:κ->κ->Bool):L_ (κ×α)->κ->α->L_ (κ×α)
 | [],k,v=>[(k,v)]
 | (a,x)::r,k,v=>if lt k a=true then(k,v)::(a,x)::r else(a,x)::NP lt r k v
def NQ : L_ (κ×α)->κ->α->L_ (κ×α)
 | [],_,_=>[]
 | (a,x)::r,k,v=>if a=k then(k,v)::r else(a,x)::NQ r k v
def YI (lt:κ->κ->Bool)(l:L_ (κ×α))(k:κ)(v:α):L_ (κ×α):=match QR l k with
 | some _=>NQ l k v
 | none=>NP lt l k v
def Qgi : ∀{l:L_ (κ×α)} {k:κ} {v:α},QR l k=some v->(k,v)∈l:=by
 intro l
 induction l with
 | nil=>intro k v h;cases h
 | cons p l D=>
  intro k v h
  obtain⟨a,x⟩:=p
  rw[QR]at h
  split at h
  ·rename_i e;subst e;cases h;exact XY
  exact Yo _ (D h)
def Qf3 : ∀{l:L_ (κ×α)} {k:κ} {v:α},(l.map Prod.fst).Nodup->(k,v)∈l->QR l k=some v:=by
 intro l
 induction l with
 | nil=>intro k v _ h;cases h
 | cons p l ih=>
  intro k v D h
  obtain⟨a,x⟩:=p
  rw[Ul,Nn]at D
  rw[QR]
  rcases Yw.1 h with h | h
  ·cases h;simp
  have:a≠k:=λe=>D.1 (by rw[show(a,x).1=k from e];exact YL.2 ⟨(k,v),h,rfl⟩)
  rw[if_neg this];exact ih D.2 h
def QoU : ∀{l:L_ (κ×α)} {k:κ},QR l k=none->∀p∈l,p.1≠k:=by
 intro l
 induction l with
 | nil=>intro k _ p h;cases h
 | cons q l ih=>
  intro k h p hp
  obtain⟨a,x⟩:=q
  rw[QR]at h
  split at h
  ·cases h
  rename_i D
  rcases Yw.1 hp with e | hp
  ·subst e;exact D
  exact ih h p hp
def QdB (lt:κ->κ->Bool):∀(l:L_ (κ×α)) (k:κ) (v:α),(NP lt l k v).Perm ((k,v)::l):=by
 intro l
 induction l with
 | nil=>intro k v;exact .refl _
 | cons p l h=>
  intro k v
  obtain⟨a,x⟩:=p
  rw[NP]
  split
  ·exact .refl _
  exact((h k v).cons (a,x)).trans (.swap _ _ _)
def Qgj : ∀(l:L_ (κ×α)) (k:κ) (v:α),(NQ l k v).map Prod.fst=l.map Prod.fst:=by
 intro l
 induction l with
 | nil=>intro k v;rfl
 | cons p l h=>
  intro k v
  obtain⟨a,x⟩:=p
  rw[NQ]
  split
  ·rename_i e;subst e;rfl
  rw[Ul,Ul,h]
def Qp9 : ∀{l:L_ (κ×α)} {k:κ} {v:α},(l.map Prod.fst).Nodup->(∃x,(k,x)∈l)->∀p,p∈NQ l k v↔p=(k,v)\/(p∈l/\p.1≠k):=by
 intro l
 induction l with
 | nil=>intro k v _ ⟨x,h⟩;cases h
 | cons q l ih=>
  intro k v hn ⟨x,hx⟩ p
  obtain⟨a,y⟩:=q
  rw[Ul,Nn]at hn
  rw[NQ]
  split
  ·rename_i e
   subst e
   have hno:∀p∈l,p.1≠a:=λp hp e=>hn.1 (YL.2 ⟨p,hp,e⟩)
   constructor
   ·intro h
    rcases Yw.1 h with h | h
    ·exact .inl h
    exact .inr ⟨Yo _ h,hno p h⟩
   rintro (h | ⟨h,h'⟩)
   ·rw[h];exact XY
   rcases Yw.1 h with h | h
   ·subst h;exact absurd rfl h'
   exact Yo _ h
  rename_i D
  have hx':(k,x)∈l:=by
   rcases Yw.1 hx with h | h
   ·cases h;exact absurd rfl D
   exact h
  have:=ih hn.2 ⟨x,hx'⟩ (v:=v) p
  rw[Yw,this,Yw]
  constructor
  ·rintro (h | h | h)
   ·subst h;exact .inr ⟨.inl rfl,D⟩
   ·exact .inl h
   exact .inr ⟨.inr h.1,h.2⟩
  rintro (h | ⟨h | h,h'⟩)
  ·exact .inr (.inl h)
  ·exact .inl h
  exact .inr (.inr ⟨h,h'⟩)
def QnN (lt:κ->κ->Bool){l:L_ (κ×α)}{k:κ}{v:α}(h:(l.map Prod.fst).Nodup):((YI lt l k v).map Prod.fst).Nodup:=by
 unfold YI
 split
 ·rw[Qgj];exact h
 rename_i hn
 refine(((QdB lt l k v).map Prod.fst).nodup_iff).2 ?_
 rw[Ul,Nn]
 refine⟨λD=>?_,h⟩
 obtain⟨p,hp,e⟩:=YL.1 D
 exact QoU hn p hp e
end
def QN {κ α:Type}(e:κ->V)(f:α->V)(l:L_ (κ×α)):L_ (V×V):=l.map λp=>(e p.1,f p.2)
structure Up (P:Program) (K:TypeId) {κ:Type} (e:κ->V) (val:κ->Value):Prop where
 d:∃D,P.underlying K=some D/\∀k,MapKept.IsKey D (val k)
 inv:∀I w x k,XB I w x (e k)->x=val k
 dat:∀I w k,XB I w (val k) (e k)
 edat:∀k,(e k).dat=true
 inj:∀a b,val a=val b->a=b
 einj:∀a b,e a=e b->a=b
def QrL (P:Program)(K:TypeId)(h:IntKind):Bool:=match P.underlying K with
 | some (.int k)=>decide (k=h)
 | _=>false
def Up.int {P:Program}{K:TypeId}{D:IntKind}(h:QrL P K D=true):Up P K (V.i D) (Value.int D):=by
 unfold QrL at h
 split at h
 ·rename_i k hk
  have:=Xo h
  subst this
  refine⟨⟨_,hk,λ_=>rfl⟩,λI w x k h=>by cases h;rfl,λI w k=>.i _ _,λ_=>rfl,λa b h=>by cases h;rfl,λa b h=>by cases h;rfl⟩
 cases h
def Up.str {P:Program}{K:TypeId}(h:QbU P K=true):Up P K V.s Value.string:=
 ⟨⟨_,Vh h,λ_=>trivial⟩,λI w x k h=>by cases h;rfl,λI w k=>.s _,λ_=>rfl,λa b h=>by cases h;rfl,λa b h=>by cases h;rfl⟩
section
variable {P:Program}{K:TypeId}{κ α:Type}[DecidableEq κ]{e:κ->V}{val:κ->Value}{f:α->V}{I:Nat->Prop}{w:World}{B:Xa}{l:L_ (κ×α)}
def TK (he:∀a b,e a=e b->a=b):((QN e f l).map Prod.fst).Nodup↔(l.map Prod.fst).Nodup:=by
 have:(QN e f l).map Prod.fst=(l.map Prod.fst).map e:=by simp[QN]
 rw[this]
 constructor
 ·intro h;exact(TG.1 h).imp λD e'=>D (by rw[e'])
 intro h;exact TG.2 (h.imp λD e'=>D (he _ _ e'))
def DV.find (hk:Up P K e val){D:TypeDesc}(hD:P.underlying K=some D)(h:DV I w B (QN e f l))(k:κ):∃es clock,w.heap[B.b]? = some (.map es clock)/\MapKept.Stamped es clock/\(l.map Prod.fst).Nodup/\
  es.size=l.length/\MapKept.IsKey D (val k)/\
  ((QR l k=none/\Instr.findNow D (val k) es.toList 0=some none/\∀x∈es.toList,x.key≠val k)\/
   ∃j x v,QR l k=some v/\Instr.findNow D (val k) es.toList 0=some (some (j,x.val))/\es[j]? = some x/\x.key=val k/\XB I w x.val (f v)):=by
 obtain⟨es,clock,h1,h2,h3,h4,h5,h6⟩:=h
 obtain⟨D',hD',hK⟩:=hk.d
 rw[hD]at hD';cases hD'
 have hn:=(TK hk.einj).1 h3
 have hrow:∀x∈es.toList,∃a y,(a,y)∈l/\x.key=val a/\XB I w x.val (f y):=λx hx=>by
  obtain⟨p,hp,a1,a2⟩:=h5 x hx
  obtain⟨q,hq,rfl⟩:=YL.1 hp
  exact⟨q.1,q.2,hq,hk.inv _ _ _ _ a1,a2⟩
 have hks:∀x∈es.toList,MapKept.IsKey D x.key:=λx hx=>by obtain⟨a,y,_,e1,_⟩:=hrow x hx;rw[e1];exact hK a
 refine⟨es,clock,h1,h2,hn,by rw[h4,QN,Lv],hK k,?_⟩
 rcases MapKept.findNow_spec (hK k) es.toList 0 hks with⟨g1,g2⟩|⟨j,x,g1,g2,g3⟩
 ·refine .inl ⟨?_,g1,g2⟩
  cases hg:QR l k with
  | none=>rfl
  | some v=>
   obtain⟨x,hx,a1,_⟩:=h6 (e k,f v) (YL.2 ⟨(k,v),Qgi hg,rfl⟩)
   exact absurd (hk.inv _ _ _ _ a1) (g2 x hx)
 obtain⟨a,y,hm,e1,e2⟩:=hrow x (XH g2)
 have:a=k:=hk.inj _ _ (by rw[<-e1,g3])
 subst this
 exact .inr ⟨j,x,y,Qf3 hn hm,by simpa using g1,by simpa using g2,g3,e2⟩
end
def NR (P:Program)(T:TypeId):O_ (TypeId×TypeId):=match P.underlying T with
 | some (.map k e)=>some (k,e)
 | _=>none
def Fq {P:Program}{T k e:TypeId}(h:NR P T=some (k,e)):P.underlying T=some (.map k e):=by
 unfold NR at h
 split at h
 ·rename_i D;cases h;exact D
 cases h
section
variable {P:Program}{C:Xx}{σ:St}{o:Oper}
def Ql.makeMap {T d:Nat}(ho:o.op=.makeMap T none)(D:o.dst=some d)(h:B_ d C)(hf:look σ.hp d=none):Ql P C o σ ((σ.set d (.map [])).put d (.map d)):=by
 refine Ql.val λφ a w hr=>?_
 refine⟨.map (some w.heap.size),w.alloc (.map #[] 0),ext φ d ⟨w.heap.size,0,0,[],0⟩,?_,?_⟩
 ·simp[execOp,ho,Instr.makeMap]
 rw[D]
 refine(hr.alloc (cap:=0) (z:=0) hf (C.slot h) (ob:=.map []) (obj:=.map #[] 0) ⟨#[],0,heap_alloc_new w _,MapKept.stamped_empty 0,by simp,rfl,by simp,by simp⟩).put (XE h) ?_
 exact .map d ⟨w.heap.size,0,0,[],0⟩ (Xv _ _ _)
def Hh (P:Program)(T:TypeId)(z:V):Prop:=∃i x,P.info? T=some i/\i.zero=some x/\∀I w,XB I w x z
def Ql.lookup {T d b K E:Nat}{x y:Operand}{κ α:Type}[DecidableEq κ]{e:κ->V}{val:κ->Value}{f:α->V}{l:L_ (κ×α)}{k:κ}{z:α}{v:V}(ho:o.op=.lookup T x y false)(hd:o.dst=some d)
  (hn:B_ d C) (hx:σ.opd x=some (.map b)) (hb:look σ.hp b=some (.map (QN e f l))) (hy:σ.opd y=some (e k)) (hT:NR P T=some (K,E)) (hk:Up P K e val) (hz:Hh P E (f z))
  (hv:f ((QR l k).getD z)=v):Ql P C o σ (σ.put d v):=by
 refine Ql.same hd hn λφ a w hr=>?_
 subst hv
 obtain⟨B,hB,he⟩:=(hr.opd hx).map_inv
 have hyv:a.eval y=val k:=hk.inv _ _ _ _ ((hr.opd hy).toDat (hk.edat k))
 obtain⟨D,h,_⟩:=hk.d
 obtain⟨es,clock,h1,h2,h3,h4,h5,h6⟩:=DV.find hk h (hr.block hB hb) k
 obtain⟨i,zx,hi,hzx,hzd⟩:=hz
 rcases h6 with⟨g1,g2,_⟩|⟨j,xx,v,g1,g2,g3,g4,g5⟩
 ·refine⟨zx,?_,by rw[g1];exact .dat (hzd _ _)⟩
  simp[execOp,ho,he,hyv,Instr.lookup,run_underlying (Fq hT),MapKept.run_getObj_map h1,MapKept.run_checkKey h h5,MapKept.run_findKey h g2,zeroValue,typeInfo,hi,hzx]
 refine⟨xx.val,?_,by rw[g1];exact .dat g5⟩
 simp[execOp,ho,he,hyv,Instr.lookup,run_underlying (Fq hT),MapKept.run_getObj_map h1,MapKept.run_checkKey h h5,MapKept.run_findKey h g2]
def Ql.lookupOk {T d b K E:Nat}{x y:Operand}{κ α:Type}[DecidableEq κ]{e:κ->V}{val:κ->Value}{f:α->V}{l:L_ (κ×α)}{k:κ}{z:α}{v:V}{t:Bool}(ho:o.op=.lookup T x y true)(hd:o.dst=some d)
  (hn:B_ d C) (hx:σ.opd x=some (.map b)) (hb:look σ.hp b=some (.map (QN e f l))) (hy:σ.opd y=some (e k)) (hT:NR P T=some (K,E)) (hk:Up P K e val) (hz:Hh P E (f z))
  (hv:f ((QR l k).getD z)=v) (ht:(QR l k).isSome=t):Ql P C o σ (σ.put d (.tup [v,.b t])):=by
 refine Ql.same hd hn λφ a w hr=>?_
 subst hv ht
 obtain⟨B,hB,he⟩:=(hr.opd hx).map_inv
 have hyv:a.eval y=val k:=hk.inv _ _ _ _ ((hr.opd hy).toDat (hk.edat k))
 obtain⟨D,h,_⟩:=hk.d
 obtain⟨es,clock,h1,h2,h3,h4,h5,h6⟩:=DV.find hk h (hr.block hB hb) k
 obtain⟨i,zx,hi,hzx,hzd⟩:=hz
 have two:∀{x:Value} {u:V} {t:Bool},XB (Xl C φ w) w x u->QT φ (Xl C φ w) w (.tuple #[x,.bool t]) (.tup [u,.b t]):=λ{x u t} h=>
  .dat (.tup _ _ rfl λj x' u' hx hu=>by
   match j with
   | 0=>simp at hx hu;subst hx;subst hu;exact h
   | 1=>simp at hx hu;subst hx;subst hu;exact .b _
   | j+2=>simp at hx)
 rcases h6 with⟨g1,g2,_⟩|⟨j,xx,v,g1,g2,g3,g4,g5⟩
 ·refine⟨.tuple #[zx,.bool false],?_,by rw[g1];exact two (hzd _ _)⟩
  simp[execOp,ho,he,hyv,Instr.lookup,run_underlying (Fq hT),MapKept.run_getObj_map h1,MapKept.run_checkKey h h5,MapKept.run_findKey h g2,zeroValue,typeInfo,hi,hzx]
 refine⟨.tuple #[xx.val,.bool true],?_,by rw[g1];exact two g5⟩
 simp[execOp,ho,he,hyv,Instr.lookup,run_underlying (Fq hT),MapKept.run_getObj_map h1,MapKept.run_checkKey h h5,MapKept.run_findKey h g2]
def HE {w:World}{r k:Nat}(o:Obj)(h:k≠r):(w.heap.setIfInBounds r o)[k]? = w.heap[k]? := by
 rw[QaP,if_neg (Ne.symm h)]
def Ql.mapUpdateI {T b K E:Nat}{x y u:Operand}{κ α:Type}[DecidableEq κ]{e:κ->V}{val:κ->Value}{f:α->V}{l:L_ (κ×α)}{k:κ}{v:α}(lt:κ->κ->Bool)(ho:o.op=.mapUpdate T x y u\/o.op=.insert T x y u)(hd:o.dst=none)
  (hx:σ.opd x=some (.map b)) (hb:look σ.hp b=some (.map (QN e f l))) (hy:σ.opd y=some (e k)) (hu:σ.opd u=some (f v)) (hT:NR P T=some (K,E)) (hk:Up P K e val) (hv:(f v).dat=true):
  Ql P C o σ (σ.set b (.map (QN e f (YI lt l k v)))):=by
 refine Ql.skp λφ a w hr=>?_
 obtain⟨B,hB,he⟩:=(hr.opd hx).map_inv
 have hyv:a.eval y=val k:=hk.inv _ _ _ _ ((hr.opd hy).toDat (hk.edat k))
 have huv:=(hr.opd hu).toDat hv
 obtain⟨D,hD,_⟩:=hk.d
 have hrep:=hr.block hB hb
 obtain⟨es,clock,h1,h2,h3,h4,h5,h6⟩:=DV.find hk hD hrep k
 obtain⟨es',clock',h1',_,_,_,r5,r6⟩:=hrep
 rw[h1]at h1';cases h1'
 have hlt:B.b<w.heap.size:=(hr.lt b B _ hB B.self).1
 have write:∀(es2:Array MapEntry) (h:Nat) (l2:L_ (κ×α)),MapKept.Stamped es2 h->(l2.map Prod.fst).Nodup->es2.size=l2.length->
   (∀x∈es2.toList,∃p∈l2,x.key=val p.1/\XB (Xl C φ w) w x.val (f p.2))->(∀p∈l2,∃x∈es2.toList,x.key=val p.1/\XB (Xl C φ w) w x.val (f p.2))->
   RR C φ (σ.set b (.map (QN e f l2))) a { w with heap:=w.heap.setIfInBounds B.b (.map es2 h) }:=by
  intro es2 h l2 a1 a2 a3 a4 a5
  have hI:∀k,Xl C φ w k->Xl C φ { w with heap:=w.heap.setIfInBounds B.b (.map es2 h) } k/\(w.heap.setIfInBounds B.b (.map es2 h))[k]? = w.heap[k]? := λk hk'=>
   ⟨⟨by simpa using hk'.1,hk'.2⟩,HE _ λe=>hk'.2.2 b B hB (.inl e)⟩
  refine hr.write hB rfl rfl rfl (by simp) (λk hne=>HE _ hne) ⟨es2,h,by simp[hlt],a1,(TK hk.einj).2 a2,by rw[a3,QN,Lv],λx hx=>?_,λp hp=>?_⟩
  ·obtain⟨p,hp,e1,e2⟩:=a4 x hx
   exact⟨_,YL.2 ⟨p,hp,rfl⟩,by rw[e1];exact hk.dat _ _ _,e2.mono hI⟩
  obtain⟨q,hq,rfl⟩:=YL.1 hp
  obtain⟨x,hx,e1,e2⟩:=a5 q hq
  exact⟨x,hx,by rw[e1];exact hk.dat _ _ _,e2.mono hI⟩
 have old1:∀x∈es.toList,∃p∈l,x.key=val p.1/\XB (Xl C φ w) w x.val (f p.2):=λx hx=>by
  obtain⟨p,hp,a1,a2⟩:=r5 x hx
  obtain⟨q,hq,rfl⟩:=YL.1 hp
  exact⟨q,hq,hk.inv _ _ _ _ a1,a2⟩
 have old2:∀p∈l,∃x∈es.toList,x.key=val p.1/\XB (Xl C φ w) w x.val (f p.2):=λp hp=>by
  obtain⟨x,hx,a1,a2⟩:=r6 _ (YL.2 ⟨p,hp,rfl⟩)
  exact⟨x,hx,hk.inv _ _ _ _ a1,a2⟩
 rcases h6 with⟨g1,g2,g3⟩|⟨j,xx,v0,g1,g2,g3,g4,g5⟩
 ·refine⟨{ w with heap:=w.heap.setIfInBounds B.b (.map (es.push { key:=val k,val:=a.eval u,born:=clock }) (clock+1)) },φ,?_,?_⟩
  ·rcases ho with ho | ho<;>simp[execOp,ho,he,hyv,Instr.mapUpdate,run_underlying (Fq hT),MapKept.run_getObj_map h1,MapKept.run_checkKey hD h5,MapKept.run_findKey hD g2,MapKept.run_setObj_map _ h1]
  rw[hd]
  have hms:YI lt l k v=NP lt l k v:=by unfold YI;rw[g1]
  have hmem:∀p,p∈NP lt l k v↔p=(k,v)\/p∈l:=λp=>by rw[(QdB lt l k v).mem_iff,Yw]
  rw[hms]
  refine write _ _ _ (MapKept.stamped_push h2 g3) (by rw[<-hms];exact QnN lt h3) (by rw[(QdB lt l k v).length_eq];simp[h4]) (λx hx=>?_) (λp hp=>?_)
  ·simp only[Array.toList_push,YD,OW]at hx
   rcases hx with hx | rfl
   ·obtain⟨p,hp,e1,e2⟩:=old1 x hx;exact⟨p,(hmem p).2 (.inr hp),e1,e2⟩
   exact⟨(k,v),(hmem _).2 (.inl rfl),rfl,huv⟩
  rcases(hmem p).1 hp with rfl | hp
  ·exact⟨{ key:=val k,val:=a.eval u,born:=clock },by simp,rfl,huv⟩
  obtain⟨x,hx,e1,e2⟩:=old2 p hp;exact⟨x,by simp only[Array.toList_push,YD];exact .inl hx,e1,e2⟩
 refine⟨{ w with heap:=w.heap.setIfInBounds B.b (.map (es.modify j λx=>{ x with key:=val k,val:=a.eval u }) clock) },φ,?_,?_⟩
 ·rcases ho with ho | ho<;>simp[execOp,ho,he,hyv,Instr.mapUpdate,run_underlying (Fq hT),MapKept.run_getObj_map h1,MapKept.run_checkKey hD h5,MapKept.run_findKey hD g2,MapKept.run_setObj_map _ h1,g3,g4,MapKept.run_keyThatStays h5]
 rw[hd]
 have hms:YI lt l k v=NQ l k v:=by unfold YI;rw[g1]
 have hmem:=Qp9 h3 ⟨v0,Qgi g1⟩ (v:=v)
 have hlen:(NQ l k v).length=l.length:=by have:=congrArg List.length (Qgj l k v);simpa using this
 have hjlt:j<es.size:=(Fo.1 g3).1
 have hmod:∀i:Nat,(es.modify j λx=>{ x with key:=val k,val:=a.eval u })[i]? = if i=j then some { xx with key:=val k,val:=a.eval u }else es[i]? := λi=>by
  rw[QlV]
  by_cases hij:j=i
  ·subst hij;simp[g3]
  rw[if_neg hij,if_neg (Ne.symm hij)]
 have hkeyj:∀i x,es[i]? = some x->x.key=val k->i=j:=λi x hx hxk=>by
  have hnd:=h2.2.2
  have i1:(es.toList.map (·.key))[i]? = some (val k):=by simp[Yf,hx,hxk]
  have i2:(es.toList.map (·.key))[j]? = some (val k):=by simp[Yf,g3,g4]
  exact(List.getElem?_inj (by simpa using (Fo.1 hx).1) hnd).1 (i1.trans i2.symm)
 rw[hms]
 refine write _ _ _ (MapKept.stamped_modify h2 _ _ (λ_ _=>rfl) λx _ hx=>by rw[g3]at hx;cases hx;exact g4.symm) (by rw[Qgj];exact h3) (by rw[Array.size_modify,h4,hlen]) (λx hx=>?_) (λp hp=>?_)
 ·obtain⟨i,hi⟩:=Nl.1 hx
  rw[QaQ,hmod]at hi
  split at hi
  ·cases hi;exact⟨(k,v),(hmem _).2 (.inl rfl),rfl,huv⟩
  rename_i hne
  obtain⟨p,hp,e1,e2⟩:=old1 x (by rw[Nl];exact⟨i,by simpa using hi⟩)
  exact⟨p,(hmem p).2 (.inr ⟨hp,λe=>hne (hkeyj i x hi (by rw[e1,e]))⟩),e1,e2⟩
 rcases(hmem p).1 hp with rfl | ⟨hp,hne⟩
 ·exact⟨_,Nl.2 ⟨j,by rw[QaQ,hmod,if_pos rfl]⟩,rfl,huv⟩
 obtain⟨x,hx,e1,e2⟩:=old2 p hp
 obtain⟨i,hi⟩:=Nl.1 hx
 refine⟨x,Nl.2 ⟨i,?_⟩,e1,e2⟩
 have hij:i≠j:=λe=>by
  subst e
  rw[QaQ,g3]at hi;cases hi
  exact hne (hk.inj _ _ (by rw[<-e1,g4]))
 rw[QaQ,hmod,if_neg hij,<-QaQ];exact hi
def Ql.mapUpdate {T b K E:Nat}{x y u:Operand}{κ α:Type}[DecidableEq κ]{e:κ->V}{val:κ->Value}{f:α->V}{l:L_ (κ×α)}{k:κ}{v:α}(lt:κ->κ->Bool)(ho:o.op=.mapUpdate T x y u)(hd:o.dst=none)
  (hx:σ.opd x=some (.map b)) (D:look σ.hp b=some (.map (QN e f l))) (hy:σ.opd y=some (e k)) (hu:σ.opd u=some (f v)) (h:NR P T=some (K,E)) (hk:Up P K e val) (hv:(f v).dat=true):
  Ql P C o σ (σ.set b (.map (QN e f (YI lt l k v)))):=
 Ql.mapUpdateI lt (.inl ho) hd hx D hy hu h hk hv
def Ql.insert {T b K E:Nat}{x y u:Operand}{κ α:Type}[DecidableEq κ]{e:κ->V}{val:κ->Value}{f:α->V}{l:L_ (κ×α)}{k:κ}{v:α}(lt:κ->κ->Bool)(ho:o.op=.insert T x y u)(hd:o.dst=none)
  (hx:σ.opd x=some (.map b)) (D:look σ.hp b=some (.map (QN e f l))) (hy:σ.opd y=some (e k)) (hu:σ.opd u=some (f v)) (h:NR P T=some (K,E)) (hk:Up P K e val) (hv:(f v).dat=true):
  Ql P C o σ (σ.set b (.map (QN e f (YI lt l k v)))):=
 Ql.mapUpdateI lt (.inr ho) hd hx D hy hu h hk hv
end
inductive EE (σ:St) (dflt:Nat):Option Operand->Nat->Prop where
 | no:EE σ dflt none dflt
 | val {x:Operand} {k:IntKind} {n:Int} {l:Nat}:σ.opd x=some (.i k n)->0<=n->n.toNat=l->EE σ dflt (some x) l
section
variable {P:Program}{C:Xx}{σ:St}{o:Oper}{φ:Nat->O_ Xa}{a:Act}{w:World}
def Ia {k:IntKind}{i:Int}{y:Nat}{h:BoundsCode}(D:0<=i)(h1:i.toNat<=y):(Instr.sliceBound (.int k i) y h).run P w=.ok i.toNat w:=by
 have:0<=i/\i<=(y:Int):=⟨D,by omega⟩
 simp[Instr.sliceBound,asIntOf,this]
def Uq (hr:RR C φ σ a w){lo hi:O_ Operand}{l h D cap:Nat}{b:Bool}(hl:EE σ 0 lo l)(hh:EE σ D hi h)(h1:l<=h)(h2:h<=cap):
  (Instr.sliceBounds b D cap (lo.map a.eval) (hi.map a.eval) none).run P w=.ok (l,h,cap) w:=by
 cases hl with
 | no=>
  cases hh with
  | no=>simp[Instr.sliceBounds]
  | val e1 e2 e3=>subst e3;simp[Instr.sliceBounds,(hr.opd e1).i_inv,Ia e2 h2]
 | val e1 e2 e3=>
  subst e3
  cases hh with
  | no=>simp[Instr.sliceBounds,(hr.opd e1).i_inv,Ia e2 h1]
  | val f1 f2 f3=>subst f3;simp[Instr.sliceBounds,(hr.opd e1).i_inv,Ia e2 h1,(hr.opd f1).i_inv,Ia f2 h2]
def Ql.sliceD {T d l h e z by_:Nat}{x:Operand}{lo hi:O_ Operand}{rows us:L_ (L_ V)}(ho:o.op=.slice T x lo hi none)(hd:o.dst=some d)(hn:B_ d C)(hx:σ.opd x=some (.sl z rows))
  (hT:Yk P T=some (e,z,by_)) (hl:EE σ 0 lo l) (hh:EE σ rows.length hi h) (h1:l<=h) (h2:h<=rows.length) (hu:(rows.drop l).take (h-l)=us):Ql P C o σ (σ.put d (.sl z us)):=by
 refine Ql.same hd hn λφ a w hr=>?_
 subst hu
 obtain⟨hu,i,hi',hiz,_⟩:=JJ hT
 rcases(hr.opd hx).sl_inv with⟨a0,cap,he,rfl⟩|⟨b,off,cap,he,hI,hcap,hok,c,hc,D⟩
 ·have h0:h=0:=by simpa using h2
  subst h0
  have l0:l=0:=by omega
  subst l0
  refine⟨.slice (if cap=0 then a0 else a0.map (·.add (0*i.size))) 0 cap,?_,.dat (.sl0 _ _ _)⟩
  have hh':EE σ 0 hi 0:=hh
  simp[execOp,ho,he,Instr.sliceAt,Instr.slice,run_underlying hu,Uq hr hl hh' h1 (by simp:0<=cap),sizeOf,typeInfo,hi']
 refine⟨.slice (if cap=l then some ⟨b,off,none⟩else some ((⟨b,off,none⟩:Addr).add (l*i.size))) (h-l) (cap-l),?_,.dat ?_⟩
 ·simp only[execOp,ho,he,Instr.sliceAt,Instr.slice,run_underlying hu,MQ,Uq hr hl hh h1 (by omega:h<=cap),sizeOf,typeInfo,hi',Xh,Xw,run_program,Xq,Ww,MQ]
 by_cases hlh:h-l=0
 ·rw[hlh];simp only[List.take_zero];exact .sl0 _ _ _
 have hcl:cap≠l:=by omega
 rw[if_neg hcl,hiz,Addr.add_lit]
 refine .sl b (off+l*z) (h-l) (cap-l) z _ (λj=>c (l*z+j)) hI (by simp;omega) (by omega) (λr hr'=>hok r (TE (Bf hr'))) (λj hj=>?_) (λk r hk j v hj=>?_)
 ·have hle:l*z+(h-l)*z<=rows.length*z:=by rw[<-WE];exact JP _ (by omega)
  have:=hc (l*z+j) (by omega)
  rw[TH];exact this
 rw[Kd]at hk
 split at hk
 ·rw[Be]at hk
  have:=D (l+k) r hk j v hj
  rw[WE]at this
  rw[<-TH];exact this
 cases hk
def RR.shrink (h:RR C φ σ a w){b z:Nat}{rs:L_ (L_ V)}(hb:look σ.hp b=some (.arr z rs))(n:Nat):RR C φ (σ.set b (.arr z (rs.take n))) a w:=by
 refine⟨h.os,h.tape,h.output,h.size,h.kept,h.inj,λo B hB=>?_,h.lt,h.new,h.stay.set hb,h.tmps,h.defers,h.frame,λo ob D=>?_⟩
 ·by_cases e:o=b
  ·subst e;exact⟨_,σ.look_set_same _ _⟩
  obtain⟨ob,h1⟩:=h.dom o B hB;exact⟨ob,by rw[σ.look_set_other _ (Ne.symm e)];exact h1⟩
 by_cases e:o=b
 ·subst e;rw[σ.look_set_same]at D;cases D
  rcases h.heap o _ hb with⟨B,hB,h1,h2,h3,cs,E,h4,h5,h6⟩|⟨h1,h2⟩
  ·refine .inl ⟨B,hB,h1,by simp;omega,λr hr=>h3 r (Bf hr),cs,E,h4,h5,λi r hi=>?_⟩
   rw[Kd]at hi
   split at hi
   ·exact h6 i r hi
   cases hi
  exact .inr ⟨h1,by show rs.take n=[];rw[show rs=[]from h2,List.take_nil]⟩
 rw[σ.look_set_other _ (Ne.symm e)]at D;exact h.heap o ob D
def Ql.sliceO {T d b n h e z by_:Nat}{x:Operand}{lo hi:O_ Operand}{rs us:L_ (L_ V)}(ho:o.op=.slice T x lo hi none)(hd:o.dst=some d)(hn:B_ d C)(hx:σ.opd x=some (.own b n))
  (hb:look σ.hp b=some (.arr z rs)) (hT:Yk P T=some (e,z,by_)) (hl:EE σ 0 lo 0) (hh:EE σ n hi h) (h2:h<=n) (hu:rs.take h=us):Ql P C o σ ((σ.set b (.arr z us)).put d (.own b h)):=by
 refine Ql.val λφ a w hr=>?_
 subst hu
 obtain⟨hu,i,D,hiz,_⟩:=JJ hT
 have hs:=hr.shrink hb h
 rcases(hr.opd hx).own_inv with⟨he,rfl⟩|⟨B,hB,hcap,he⟩
 ·have h0:h=0:=by omega
  subst h0
  refine⟨.slice none 0 0,w,φ,?_,by rw[hd];exact hs.put (XE hn) (.own0 b)⟩
  simp[execOp,ho,he,Instr.sliceAt,Instr.slice,run_underlying hu,Uq hr hl hh (by omega) (by omega:0<=0),sizeOf,typeInfo,D]
 refine⟨.slice (some ⟨B.b,B.off,none⟩) h B.cap,w,φ,?_,by rw[hd];exact hs.put (XE hn) (.own b h B hB (by omega))⟩
 simp only[execOp,ho,he,Instr.sliceAt,Instr.slice,run_underlying hu,Uq hr hl hh (by omega) (by omega:h<=B.cap),sizeOf,typeInfo,D,Xh,Xw,run_program,Xq,Ww,MQ,Cu,Addr.add_lit,No,ite_self,Nat.sub_zero]
def RR.rebase (h:RR C φ σ a w){b:Nat}{B B':Xa}(hB:φ b=some B)(hb2:b<620)(hb:B'.b=B.b)(hm:B'.more=B.more)(ob:Ob)(hob:JA (ext φ b B') (Xl C φ w) w B' ob):
  RR C (ext φ b B') ((σ.kill b).set b ob) a w:=by
 have hh:∀k,B'.has k↔B.has k:=λk=>by unfold Xa.has;rw[hb,hm]
 have old:∀o D,ext φ b B' o=some D->∃B2,φ o=some B2/\∀k,D.has k↔B2.has k:=λo D h1=>by
  by_cases e:o=b
  ·subst e;rw[Xv]at h1;cases h1;exact⟨B,hB,hh⟩
  rw[Xe _ e]at h1;exact⟨D,h1,λ_=>Iff.rfl⟩
 have hImm:∀k,Xl C (ext φ b B') w k↔Xl C φ w k:=λk=>by
  unfold Xl
  refine and_congr_right λ_=>and_congr_right λ_=>⟨λh1 o D h2=>?_,λh1 o D h2=>?_⟩
  ·by_cases e:o=b
   ·subst e;rw[hB]at h2;cases h2;rw[<-hh];exact h1 o B' (Xv _ _ _)
   exact h1 o D (by rw[Xe _ e];exact h2)
  obtain⟨B2,h3,h4⟩:=old o D h2
  rw[h4];exact h1 o B2 h3
 have hI:∀k,Xl C φ w k->Xl C (ext φ b B') w k/\w.heap[k]? = w.heap[k]? := λk hk=>⟨(hImm k).2 hk,rfl⟩
 have hφ:∀o D,o≠b->φ o=some D->ext φ b B' o=some D:=λo D e h1=>by rw[Xe _ e];exact h1
 refine⟨h.os,h.tape,h.output,h.size,h.kept,λo o' D B2 k h1 h2 h3 h4=>?_,λo D h1=>?_,λo D k h1 h2=>?_,λo D k h1 h2 h3=>?_,⟨λo D hge h1=>?_,λo ob' D hge ho h1=>?_⟩,h.tmps,h.defers.mono hI,λt v hv=>?_,λo ob' hob'=>?_⟩
 ·obtain⟨C1,c1,c2⟩:=old o D h1
  obtain⟨C2,c3,c4⟩:=old o' B2 h2
  exact h.inj o o' C1 C2 k c1 c3 ((c2 k).1 h3) ((c4 k).1 h4)
 ·by_cases e:o=b
  ·subst e;exact⟨ob,St.look_set_same _ _ _⟩
  rw[Xe _ e]at h1
  obtain⟨ob',h'⟩:=h.dom o D h1
  exact⟨_,by rw[St.look_set_other _ _ (Ne.symm e)];exact GO _ _ _ e h'⟩
 ·obtain⟨C1,c1,c2⟩:=old o D h1
  exact h.lt o C1 k c1 ((c2 k).1 h2)
 ·obtain⟨C1,c1,c2⟩:=old o D h1
  exact h.new o C1 k c1 ((c2 k).1 h2) h3
 ·rw[Xe _ (by omega)]at h1;exact h.stay.1 o D hge h1
 ·have e:o≠b:=by omega
  rw[St.look_set_other _ _ (Ne.symm e)]at ho
  obtain⟨_,ob2,h2,_⟩:=JS _ _ _ ho
  rw[Xe _ e];exact h.stay.2 o ob2 D hge h2 h1
 ·obtain⟨v',hv',rfl⟩:=MS _ _ _ hv
  obtain⟨x,hx,hr⟩:=h.frame t v' hv'
  exact⟨x,hx,hr.kill hφ hI⟩
 by_cases e:o=b
 ·subst e;rw[St.look_set_same]at hob';cases hob'
  exact .inl ⟨B',Xv _ _ _,hob.mono (λ_ _ h=>h) hI λ_ _=>rfl⟩
 rw[St.look_set_other _ _ (Ne.symm e)]at hob'
 obtain⟨hne,ob2,hob2,rfl⟩:=JS _ _ _ hob'
 rcases h.heap o ob2 hob2 with⟨D,hB1,hr⟩|⟨h1,hz⟩
 ·exact .inl ⟨D,hφ o D e hB1,hr.kill hφ hI λ_ _=>rfl⟩
 exact .inr ⟨by rw[Xe _ e];exact h1,hz.kill⟩
def Ql.sliceT {T d b n l h m e z by_:Nat}{x:Operand}{lo hi:O_ Operand}{rs us:L_ (L_ V)}(ho:o.op=.slice T x lo hi none)(hd:o.dst=some d)(hn:B_ d C)(hx:σ.opd x=some (.own b n))
  (hb:look σ.hp b=some (.arr z rs)) (hb1:Nat.ble 620 b=false) (hT:Yk P T=some (e,z,by_)) (hl:EE σ 0 lo l) (hh:EE σ n hi h) (h1:l<=h) (h2:h<=n) (hu:(rs.drop l).take (h-l)=us) (hm:h-l=m):Ql P C o σ (σ.app b z d m us):=by
 refine Ql.val λφ a w hr=>?_
 subst hu hm
 have hb2:b<620:=by
  rcases WO b 620 with h | h
  ·exact h
  rw[ZR h]at hb1;cases hb1
 obtain⟨hu,i,hi',hiz,_⟩:=JJ hT
 rcases(hr.opd hx).own_inv with⟨he,rfl⟩|⟨B,hB,hcap,he⟩
 ·have h0:h=0:=by omega
  have l0:l=0:=by omega
  subst h0 l0
  refine⟨.slice none 0 0,w,φ,?_,?_⟩
  ·simp[execOp,ho,he,Instr.sliceAt,Instr.slice,run_underlying hu,Uq hr hl hh (by omega) (by omega:0<=0),sizeOf,typeInfo,hi']
  rw[hd]
  have:=hr.reset b (.arr z []) ⟨_,hb⟩ (by
   rcases hr.heap b _ hb with⟨B,hB,D⟩|hn
   ·left
    obtain⟨e1,e2,e3,cs,E,e4,e5,e6⟩:=D
    exact⟨B,hB,e1,He _,by simp,cs,E,e4,e5,by simp⟩
   exact .inr ⟨hn.1,rfl⟩)
  simpa[St.app] using this.put (XE hn) (.own0 b)
 have D:=hr.block hB hb
 obtain⟨e1,e2,e3,cs,E,e4,e5,e6⟩:=D
 by_cases hcl:B.cap=l
 ·
  have hrl:rs.drop l=[]:=List.drop_eq_nil_of_le (by omega)
  have hhl:h=l:=by omega
  subst hhl
  have hcap0:B.cap-h=0:=by omega
  refine⟨.slice (some ⟨B.b,B.off,none⟩) 0 0,w,ext φ b { B with cap:=0 },?_,?_⟩
  ·simp only[execOp,ho,he,Instr.sliceAt,Instr.slice,run_underlying hu,Uq hr hl hh h1 (by omega:h<=B.cap),sizeOf,typeInfo,hi',Xh,Xw,run_program,Xq,Ww,MQ]
   simp[hcl]
  rw[hd,hrl,Nat.sub_self]
  simp only[List.take_nil]
  exact(hr.rebase (B':={ B with cap:=0 }) hB hb2 rfl rfl (.arr z []) ⟨e1,He _,by simp,cs,E,e4,by simp;omega,by simp⟩).put (XE hn) (.own b 0 { B with cap:=0 } (Xv _ _ _) (YY _))
 subst e1
 let B':Xa:={ B with off:=B.off+l*B.z,cap:=B.cap-l }
 refine⟨.slice (some ⟨B.b,B.off+l*B.z,none⟩) (h-l) (B.cap-l),w,ext φ b B',?_,?_⟩
 ·simp only[execOp,ho,he,Instr.sliceAt,Instr.slice,run_underlying hu,Uq hr hl hh h1 (by omega:h<=B.cap),sizeOf,typeInfo,hi',Xh,Xw,run_program,Xq,Ww,MQ,if_neg hcl,hiz,Addr.add_lit]
 rw[hd]
 have hmul:l*B.z+(B.cap-l)*B.z=B.cap*B.z:=by rw[<-WE];congr 1;omega
 refine(hr.rebase (B':=B') hB hb2 rfl rfl (.arr B.z ((rs.drop l).take (h-l))) ⟨rfl,by simp[B'];omega,λr hr'=>e3 r (TE (Bf hr')),cs,E,e4,by simp only[B'];omega,λk r hk j v hj=>?_⟩).put (XE hn) (.own b (h-l) B' (Xv _ _ _) (by simp only[B'];omega))
 rw[Kd]at hk
 split at hk
 ·rw[Be]at hk
  obtain⟨y,hy,hD⟩:=e6 (l+k) r hk j v hj
  refine⟨y,?_,hD⟩
  rw[<-hy];simp only[B'];congr 1;rw[WE];omega
 cases hk
def QeP (P:Program)(T:TypeId):Bool:=match P.underlying T with
 | some (.interface _)=>false
 | some _=>true
 | none=>false
def QkY {T:TypeId}(h:QeP P T=true):∃D,P.underlying T=some D/\∀m,D≠.interface m:=by
 unfold QeP at h
 split at h
 ·cases h
 ·rename_i D hne he;exact⟨D,he,λm e=>hne m (by rw[e])⟩
 cases h
def Ql.makeInterface {T d:Nat}{x:Operand}{v:V}(ho:o.op=.makeInterface T x)(hd:o.dst=some d)(hn:B_ d C)(hx:σ.opd x=some v)(hT:QeP P T=true):Ql P C o σ (σ.put d (.ifc T v)):=by
 refine Ql.same hd hn λφ a w hr=>⟨.iface T (a.eval x),?_,.ifc T _ _ (hr.opd hx)⟩
 obtain⟨D,hD,h⟩:=QkY hT
 have:(Instr.makeInterface T (a.eval x)).run P w=.ok (.iface T (a.eval x)) w:=by
  simp only[Instr.makeInterface,Xh,run_underlying hD,Xq]
  cases D<;>first | rfl | exact absurd rfl (h _)
 simp only[execOp,ho,Xh,this,Xq,Xw]
def Ql.typeAssert {T S d:Nat}{x:Operand}{v:V}(ho:o.op=.typeAssert x S T false)(hd:o.dst=some d)(hn:B_ d C)(hx:σ.opd x=some (.ifc T v))(hT:QeP P T=true):Ql P C o σ (σ.put d v):=by
 refine Ql.same hd hn λφ a w hr=>?_
 obtain⟨y,he,hy⟩:=(hr.opd hx).ifc_inv
 refine⟨y,?_,hy⟩
 obtain⟨D,hD,h⟩:=QkY hT
 have:(Instr.typeAssert (.iface T y) S T false).run P w=.ok y w:=by
  simp only[Instr.typeAssert,Xh,run_underlying hD,Xq]
  cases D<;>first | simp | exact absurd rfl (h _)
 simp only[execOp,ho,he,Xh,this,Xq,Xw]
def Ql.nilCheckL {d b i k:Nat}{x:Operand}(ho:o.op=.nilCheck x)(hd:o.dst=some d)(hn:B_ d C)(D:σ.opd x=some (.loc b i k)):Ql P C o σ (σ.put d (.loc b i k)):=by
 refine Ql.same hd hn λφ a w h=>⟨a.eval x,?_,h.opd D⟩
 obtain⟨B,hB,he⟩:=(h.opd D).loc_inv
 simp[execOp,ho,he]
def Ql.makeFunc {d:Nat}{fn:Fn}{first h:Array Operand}{vs us:L_ V}(ho:o.op=.makeFunc fn first h)(hd:o.dst=some d)(hn:B_ d C)(h1:σ.opsV first.toList=some vs)(h2:σ.opsV h.toList=some us):
  Ql P C o σ (σ.put d (.clo fn vs us)):=by
 refine Ql.same hd hn λφ a w hr=>?_
 obtain⟨a1,a2⟩:=hr.opsV _ _ h1
 obtain⟨b1,b2⟩:=hr.opsV _ _ h2
 refine⟨.func fn (first.map a.eval) (h.map a.eval),by simp[execOp,ho,Instr.makeFunc],.clo fn _ _ _ _ (by simpa using a1) (by simpa using b1) (λj x v D hv=>?_) λj x v D hv=>?_⟩
 ·rw[Array.getElem?_map,XW]at D
  obtain⟨y,hy,rfl⟩:=D
  exact a2 j y v (by simpa using hy) hv
 rw[Array.getElem?_map,XW]at D
 obtain⟨y,hy,rfl⟩:=D
 exact b2 j y v (by simpa using hy) hv
end
def Qb3 {κ:Type}(e:κ->V)(l:L_ (κ×L_ (L_ V))):L_ (V×L_ (L_ V)):=l.map λp=>(e p.1,p.2)
section
variable {P:Program}{K:TypeId}{κ:Type}[DecidableEq κ]{e:κ->V}{val:κ->Value}{I:Nat->Prop}{w:World}{B:Xa}{l:L_ (κ×L_ (L_ V))}{z:Nat}{out:O_ V}
def Qib (he:∀a b,e a=e b->a=b):((Qb3 e l).map Prod.fst).Nodup↔(l.map Prod.fst).Nodup:=by
 have:(Qb3 e l).map Prod.fst=(l.map Prod.fst).map e:=by simp[Qb3]
 rw[this]
 constructor
 ·intro h;exact(TG.1 h).imp λD e'=>D (by rw[e'])
 intro h;exact TG.2 (h.imp λD e'=>D (he _ _ e'))
def Ql3 (I:Nat->Prop)(w:World)(z:Nat)(e:κ->V)(val:κ->Value)(out:O_ V)(l:L_ (κ×L_ (L_ V)))(x:MapEntry)(E:O_ Xa):Prop:=
 ∃q∈l,x.key=val q.1/\((∃F,E=some F/\F.more=[]/\out≠some (e q.1)/\Je I w F z q.2/\x.val=.slice (some ⟨F.b,F.off,none⟩) q.2.length F.cap)\/(E=none/\out=some (e q.1)))
end
section
variable {P:Program}{C:Xx}{σ:St}{o:Oper}{φ:Nat->O_ Xa}{a:Act}{w:World}{ops:Array Oper}{c:Code}{Q:Exit->St->Prop}
def RR.say' (h:RR C φ σ a w){b:Nat}{ob ob':Ob}(hb:look σ.hp b=some ob)(hs:∀B,φ b=some B->JA φ (Xl C φ w) w B ob->JA φ (Xl C φ w) w B ob')(hne:¬ob.Nil):RR C φ (σ.set b ob') a w:=by
 refine⟨h.os,h.tape,h.output,h.size,h.kept,h.inj,λo B hB=>?_,h.lt,h.new,h.stay.set hb,h.tmps,h.defers,h.frame,λo ob2 D=>?_⟩
 ·by_cases e:o=b
  ·subst e;exact⟨_,σ.look_set_same _ _⟩
  obtain⟨ob,h1⟩:=h.dom o B hB;exact⟨ob,by rw[σ.look_set_other _ (Ne.symm e)];exact h1⟩
 by_cases e:o=b
 ·subst e;rw[σ.look_set_same]at D;cases D
  rcases h.heap o _ hb with⟨B,hB,hr⟩|⟨_,h2⟩
  ·exact .inl ⟨B,hB,hs B hB hr⟩
  exact absurd h2 hne
 rw[σ.look_set_other _ (Ne.symm e)]at D;exact h.heap o ob2 D
def Ql4 (P:Program)(T:TypeId):Bool:=match P.info? T with
 | some i=>match i.zero with
  | some (.slice none 0 0)=>true
  | _=>false
 | none=>false
def Ql5 {T:TypeId}(h:Ql4 P T=true):∃i,P.info? T=some i/\i.zero=some (.slice none 0 0):=by
 unfold Ql4 at h
 split at h
 ·rename_i i D
  split at h
  ·rename_i hz;exact⟨i,D,hz⟩
  cases h
 cases h
def Hh.sl {T:TypeId}{z:Nat}(h:Ql4 P T=true):Hh P T (.sl z []):=let ⟨i,h1,h2⟩:=Ql5 h;⟨i,_,h1,h2,λ_ _=>.sl0 _ _ _⟩
def Hh.one {T:TypeId}{v:Value}(hi:((P.info? T).bind (·.zero))=some v):Hh P T (AJ v):=by
 obtain⟨i,h,D⟩:=OX.1 hi
 exact⟨i,v,h,D,λ_ _=>XB.const v⟩
end
section
variable {P:Program}{C:Xx}{σ:St}{o:Oper}{a:Act}{w:World}
end
def QU.toData {P:Program}{f:FuncId}{us:L_ V}{z:Nat}{rows:L_ (L_ V)}(h:QU P f us [] (Qh5 z rows)):QU P f us [] (λv _=>v=.sl z rows):=by
 intro S φ w vals hi hG
 refine(h S φ w vals hi hG).mono ?_
 rintro e w' ⟨x,v,hs',φ',rfl,⟨o,rfl,hl⟩,ho⟩
 have hφ:∀o B,φ o≠some B:=λo B hB=>by obtain⟨ob,h⟩:=(hi.dom o B hB).2.2;cases h
 have hA:∀k,Vk S φ' w w' k->Vk S (λ_=>none) w w' k:=λk hk=>⟨hk.1,hk.2.1,λ_ _ h=>by cases h⟩
 refine⟨x,.sl z rows,[],λ_=>none,rfl,rfl,ho.os,ho.tape,ho.output,ho.size,ho.kept,λ_ _ _ _ _ h=>(by cases h),λ_ _ h=>(by cases h),λ_ _ _ h=>(by cases h),λ_ _ _ h=>(by cases h),⟨λ_ _ _ h=>(by cases h),λ_ _ _ _ h=>(by cases h)⟩,?_,λ_ _ h=>(by cases h)⟩
 rcases ho.heap o _ hl with⟨B,hB,hrep⟩|⟨hn,hz⟩
 ·rcases ho.rep.own_inv with⟨rfl,h0⟩|⟨B',D,hcap,rfl⟩
  ·have:rows=[]:=HV.1 h0
   subst this;exact .dat (.sl0 _ _ _)
  rw[hB]at D;cases D
  obtain⟨rfl,hrl,hok,cs,E,h1,h2,h3⟩:=hrep
  refine .dat (.sl B.b B.off rows.length B.cap B.z rows (λj=>cs.getD (B.off+j) undef) ⟨(ho.lt o B B.b hB B.self).1,λhlt=>?_,λ_ _ h=>by cases h⟩ rfl hcap hok (λj hj=>?_) (λi r hi j v hj=>?_))
  ·obtain⟨o',B',h4,_⟩:=(ho.lt o B B.b hB B.self).2 hlt
   exact absurd h4 (hφ _ _)
  ·have hle2:rows.length*B.z<=B.cap*B.z:=JP _ hcap
   have:B.off+j<cs.size:=by omega
   simp[World.cell?,h1,Array.getD,this]
  obtain⟨y,hy,hd⟩:=h3 i r hi j v hj
  have:cs.getD (B.off+(i*B.z+j)) undef=y:=by simp[QaO,hy]
  rw[this]
  exact hd.mono λk hk=>⟨hA k hk,rfl⟩
 replace hz:rows=[]:=hz;subst hz
 rcases ho.rep.own_inv with⟨rfl,h0⟩|⟨B',D,hcap,rfl⟩
 ·exact .dat (.sl0 _ _ _)
 rw[hn]at D;cases D
structure EF where
 ag:List (Nat×Bool)
 sz:List (Nat×Nat)
 fo:List (Nat×List Nat)
 sp:List (Nat×List (Nat×Nat))
 es:List (Nat×(Nat×Nat×Nat))
 ar:List (Nat×(Nat×Nat))
 zv:List (Nat×List V)
 sb:List Nat
 bo:List Nat
 cc:List Nat
 en:List Nat
def foB (P:Program)(t:Nat):L_ Nat->Nat->Bool
 | [],_=>true
 | off::r,i=>(match NL P t i with | some k=>Nat.beq k off | none=>false)&&foB P t r (i+1)
def EF.okB (P:Program)(T:EF):Bool:=
 T.ag.all (λp=>BR P p.1==some p.2)&&T.sz.all (λp=>Bg P p.1==some p.2)&&T.fo.all (λp=>foB P p.1 p.2 0)&&T.sp.all (λp=>QbV P p.1==some p.2) &&
 T.es.all (λp=>Yk P p.1==some p.2)&&T.ar.all (λp=>ZT P p.1==some p.2)&&T.sb.all (QbU P)&&T.bo.all (Qh6 P)&&T.cc.all (QeP P)&&T.en.all (QaS P)
structure DH (P:Program) (T:EF):Prop where
 ag:∀{t b},look T.ag t=some b->BR P t=some b
 sz:∀{t b},look T.sz t=some b->Bg P t=some b
 fo:∀{t l},look T.fo t=some l->∀{i:Nat} {k:Nat},l[i]? = some k->NL P t i=some k
 sp:∀{t b},look T.sp t=some b->QbV P t=some b
 es:∀{t b},look T.es t=some b->Yk P t=some b
 ar:∀{t b},look T.ar t=some b->ZT P t=some b
 zv:∀{t b},look T.zv t=some b->Ya P t=some b
 sb:∀{t},XK T.sb t=true->QbU P t=true
 bo:∀{t},XK T.bo t=true->Qh6 P t=true
 cc:∀{t},XK T.cc t=true->QeP P t=true
 en:∀{t},XK T.en t=true->QaS P t=true
def Qrk {P:Program}{t:Nat}:∀{l:L_ Nat} {j:Nat},foB P t l j=true->∀{i k:Nat},l[i]? = some k->NL P t (j+i)=some k:=by
 intro l
 induction l with
 | nil=>intro j _ i k h;simp at h
 | cons off r ih=>
  intro j h i k D
  rw[foB,QQ]at h
  cases i with
  | zero=>
   simp at D;subst D
   have:=h.1
   split at this
   ·rename_i k' hk';rw[No,hk',YM this]
   cases this
  | succ i=>simp at D;have:=ih h.2 D;rwa[show j+(i+1)=j+1+i by omega]
def EF.ok {P:Program}{T:EF}(h:T.okB P=true)(hz:∀p∈T.zv,Ya P p.1=some p.2):DH P T:=by
 simp only[EF.okB,QQ,XN,beq_iff_eq]at h
 obtain⟨⟨⟨⟨⟨⟨⟨⟨⟨h1,h2⟩,h3⟩,h4⟩,h5⟩,h6⟩,h7⟩,h8⟩,h9⟩,D⟩:=h
 exact⟨λe=>h1 _ (Jj e),λe=>h2 _ (Jj e),λe i k hk=>by have:=Qrk (h3 _ (Jj e)) hk;rwa[US]at this,λe=>h4 _ (Jj e),
  λe=>h5 _ (Jj e),λe=>h6 _ (Jj e),λe=>hz _ (Jj e),λe=>h7 _ (IQ.1 e),λe=>h8 _ (IQ.1 e),λe=>h9 _ (IQ.1 e),λe=>D _ (IQ.1 e)⟩
inductive Mode where
 | d
 | n (z:Nat)
 | o (us:List (List V))
 | f (n:Nat)
 | t (b:Nat)
inductive Wm where
 | no
 | row (r:List V)
 | ix
 | rows (rs:List (List V))
 | ln (n:Nat)
 | num (r:Int)
 | bd (ms:List (Option Nat))
 | c (g:Bool) (ms:List Mode) (r:V)
 | co (g:Bool) (ms:List Mode) (z:Nat) (rows:List (List V)) (m:Nat)
 | cd (g:Bool) (ms:List Mode) (z:Nat) (rows:List (List V)) (m:Nat)
 | any (v:V) (ob:Option Ob)
structure Rs where
 v:V
 ob:Option Ob
 φ:Option Prop
def Rs.holds (r:Rs):Prop:=match r.φ with
 | none=>True
 | some p=>p
def ZV (f:Operand->O_ V):L_ Operand->O_ (L_ V)
 | []=>some []
 | x::r=>match f x with
  | some v=>match ZV f r with
   | some vs=>some (v::vs)
   | none=>none
  | none=>none
def evp (f:Operand->O_ V):L_ (Nat×Operand)->O_ S_
 | []=>some []
 | (i,x)::r=>match f x with
  | some v=>match evp f r with
   | some vs=>some ((i,v)::vs)
   | none=>none
  | none=>none
def QnO (hp:Nat->O_ Ob)(g:Bool)(m:Mode)(v:V):O_ (V×O_ Prop):=match m with
 | .d=>bif v.datA then some (v,none)else none
 | .n z=>match v with
  | .lit (.slice none 0 0)=>some (.sl z [],none)
  | _=>none
 | .o us=>match v with
  | .own b n=>match hp b with
   | some (.arr z rs)=>bif g then some (.sl z us,some (n<=rs.length/\rs.take n=us))else none
   | _=>none
  | _=>none
 | .f _=>none
 | .t b=>match v with
  | .lit x=>match hp b with
   | some (.nst y u)=>bif g then some (u,some (x=y))else none
   | _=>none
  | _=>none
def Qtc (φ:O_ Prop)(p:Prop):Prop:=match φ with
 | none=>p
 | some q=>q/\p
def Qbh (hp:Nat->O_ Ob)(g:Bool):L_ Mode->L_ V->O_ (L_ V×(Prop->Prop))
 | [],[]=>some ([],id)
 | m::ms,v::vs=>match QnO hp g m v with
  | some (u,φ)=>match Qbh hp g ms vs with
   | some (us,k)=>some (u::us,λp=>Qtc φ (k p))
   | none=>none
  | none=>none
 | _,_=>none
def ikB : IntKind->IntKind->Bool
 | .i8,.i8 | .i16,.i16 | .i32,.i32 | .i64,.i64 | .u8,.u8 | .u16,.u16 | .u32,.u32 | .u64,.u64=>true
 | _,_=>false
def Ql6 {a b:IntKind}(h:ikB a b=true):a=b:=by cases a<;>cases b<;>first | rfl | cases h
def Qqa (T:EF)(op:BinOp)(h:TypeId):V->V->O_ Rs
 | .i k m,.i D n=>bif ikB k D then match op with
  | .quo=>some ⟨.i k (k.wrap (m.tdiv n)),none,some (n≠0)⟩
  | .rem=>some ⟨.i k (m.tmod n),none,some (n≠0)⟩
  | op=>match QnK op k m n with
   | some v=>some ⟨v,none,none⟩
   | none=>none
  else none
 | .b m,.b n=>bif XK T.bo h then match op with
  | .eql=>some ⟨.b (m==n),none,none⟩
  | .neq=>some ⟨.b (m != n),none,none⟩
  | _=>none
  else none
 | .s m,.s n=>match op with
  | .eql=>some ⟨.b (JT m n),none,none⟩
  | .neq=>some ⟨.b (!JT m n),none,none⟩
  | _=>none
 | _,_=>none
def unV (op:UnOp):V->O_ Rs
 | .b t=>match op with
  | .not=>some ⟨.b (!t),none,none⟩
  | _=>none
 | .i k m=>match op with
  | .neg=>some ⟨.i k (k.wrap (0-m)),none,none⟩
  | _=>none
 | _=>none
def QdC (T:EF)(D:TypeId)(h:L_ V)(off:Nat)(φ:O_ Prop):O_ Rs:=
 match look T.ag D with
 | some true=>match look T.sz D with
  | some n=>bif Nat.ble (off+n) h.length then some ⟨.agg ((h.drop off).take n),none,φ⟩else none
  | none=>none
 | some false=>match h[off]? with
  | some v=>some ⟨v,none,φ⟩
  | none=>none
 | none=>none
def QnP (T:EF)(h:Wm)(D:TypeId)(hp:Nat->O_ Ob):V->O_ Rs
 | .loc b i off=>match hp b with
  | some (.var cs)=>match i with
   | 0=>QdC T D cs off none
   | _=>none
  | some (.arr _ rs)=>match h with
   | .row r=>QdC T D r off (some (rs[i]? = some r))
   | _=>none
  | _=>none
 | .ro cs=>QdC T D cs 0 none
 | _=>none
def Ql7 (T:EF)(h:TypeId)(i:Nat):V->O_ Rs
 | .loc b k off=>match look T.fo h with
  | some l=>match l[i]? with
   | some n=>some ⟨.loc b k (off+n),none,none⟩
   | none=>none
  | none=>none
 | .ro D=>match look T.fo h with
  | some l=>match l[i]? with
   | some n=>some ⟨.ro (D.drop n),none,none⟩
   | none=>none
  | none=>none
 | _=>none
def Ql8 (T:EF)(h:Wm)(D:TypeId)(hp:Nat->O_ Ob):V->V->O_ Rs
 | .sl z rows,.i _ j=>match look T.es D with
  | some p=>match h with
   | .row r=>bif Nat.beq z p.2.1 then some ⟨.ro r,none,some (0<=j/\rows[j.toNat]? = some r)⟩else none
   | _=>none
  | none=>none
 | .own b n,.i _ j=>match look T.es D with
  | some p=>match hp b with
   | some (.arr z _)=>bif Nat.beq z p.2.1 then some ⟨.loc b j.toNat 0,none,some (0<=j/\j<(n:Int))⟩else none
   | _=>none
  | none=>none
 | .loc b i m,.i _ j=>match look T.ar D with
  | some p=>bif decide (0<=j)&&decide (j<(p.1:Int))then some ⟨.loc b i (m+j.toNat*p.2),none,none⟩else none
  | none=>none
 | .ro cs,.i _ j=>match look T.ar D with
  | some p=>bif decide (0<=j)&&decide (j<(p.1:Int))then some ⟨.ro (cs.drop (j.toNat*p.2)),none,none⟩else none
  | none=>none
 | _,_=>none
def Qqb (T:EF)(h:Wm)(D:TypeId):V->O_ Rs
 | .sl _ rows=>bif (look T.es D).isSome then match h with
  | .ln m=>some ⟨.i .i64 m,none,some (rows.length=m)⟩
  | _=>some ⟨.i .i64 rows.length,none,none⟩
  else none
 | .own _ n=>bif (look T.es D).isSome then some ⟨.i .i64 n,none,none⟩else none
 | .lit (.slice none 0 0)=>bif (look T.es D).isSome then some ⟨.i .i64 0,none,none⟩else none
 | .s s=>bif XK T.sb D then some ⟨.i .i64 s.size,none,none⟩else none
 | _=>none
def mkV (T:EF)(h:Wm)(D d:TypeId):V->V->O_ Rs
 | .i _ l,.i _ c=>match look T.es D with
  | some p=>match look T.zv p.1 with
   | some zs=>match h with
    | .rows rs=>bif Nat.beq zs.length p.2.1&&!(Nat.beq p.2.1 0)&&zs.all V.one&&Nat.ble p.2.2 32768 then
     some ⟨.own d l.toNat,some (.arr p.2.1 rs),some ((decide (0<=l)&&decide (l<=c)&&decide (c<=4294967296))=true/\List.replicate l.toNat zs=rs)⟩else none
    | _=>none
   | none=>none
  | none=>none
 | _,_=>none
def mmV (mx:Bool):V->V->O_ Rs
 | .i k m,.i h n=>bif ikB k h then bif mx then some ⟨.i k (Vm.max2 m n),none,none⟩else some ⟨.i k (Vm.min2 m n),none,none⟩else none
 | _,_=>none
def QlQ (P:Program)(C:Xx)(T:EF)(h:Wm)(hp:Nat->O_ Ob)(d fn:Nat)(vs:L_ V):O_ Rs:=
 bif XK T.en fn then match h with
 | .c g ms r=>match Qbh hp g ms vs with
  | some (us,k)=>bif (!g&&r.datA)||r.scaA then some ⟨r,none,some (k (QU P fn us [] (Gives r [])))⟩else none
  | none=>none
 | .co g ms z rows m=>match Qbh hp g ms vs with
  | some (us,k)=>some ⟨.own d m,some (.arr z rows),some (k (QU P fn us [] (Gives (.own 600 m) [(600,.arr z rows)])/\rows.length=m/\(g=false\/∀r∈rows,∀v∈r,v.sca=true)))⟩
  | none=>none
 | .cd g ms z rows m=>match Qbh hp g ms vs with
  | some (us,k)=>bif !g then some ⟨.sl z rows,none,some (k (QU P fn us [] (Gives (.own 600 m) [(600,.arr z rows)])/\rows.length=m))⟩else none
  | none=>none
 | _=>none
 else none
def ev1 (P:Program)(C:Xx)(T:EF)(h:Wm)(o:Oper)(d:Nat)(f:Operand->O_ V)(hp:Nat->O_ Ob):O_ Rs:=
 match h with
 | .any v ob=>some ⟨v,ob,some (∀σ:St,(∀x u,f x=some u->σ.opd x=some u)->(∀b u,hp b=some u->look σ.hp b=some u)->(ob.isSome=true->look σ.hp d=none)->Ql P C o σ (σ.addF ⟨d,v,ob⟩))⟩
 | h=>match o.op with
  | .move x=>match f x with
   | some v=>some ⟨v,none,none⟩
   | none=>none
  | .assign x=>match f x with
   | some v=>some ⟨v,none,none⟩
   | none=>none
  | .pick c a b=>match f c with
   | some (.b true)=>match f a with
    | some v=>some ⟨v,none,none⟩
    | none=>none
   | some (.b false)=>match f b with
    | some v=>some ⟨v,none,none⟩
    | none=>none
   | _=>none
  | .binOp op D x y _=>match f x with
   | some v=>match f y with
    | some u=>Qqa T op D v u
    | none=>none
   | none=>none
  | .unOp op _ x=>match f x with
   | some v=>unV op v
   | none=>none
  | .alloc D=>match look T.zv D with
   | some zs=>some ⟨.loc d 0 0,some (.var zs),none⟩
   | none=>none
  | .box _ x=>match f x with
   | some (.agg cs)=>some ⟨.loc d 0 0,some (.var cs),none⟩
   | some v=>bif v.one then some ⟨.loc d 0 0,some (.var [v]),none⟩else none
   | none=>none
  | .load D x=>match f x with
   | some v=>QnP T h D hp v
   | none=>none
  | .fieldAddr D x i=>match f x with
   | some v=>Ql7 T D i v
   | none=>none
  | .indexAddr D x y=>match f x with
   | some v=>match f y with
    | some u=>Ql8 T h D hp v u
    | none=>none
   | none=>none
  | .build D parts=>match evp f parts.toList with
   | some qs=>match look T.zv D with
    | some zs=>bif qs.all (λq=>q.2.isV)then match look T.sp D with
      | some pl=>match Un (pl[·]?) zs qs with
       | some vs=>some ⟨.agg vs,none,none⟩
       | none=>none
      | none=>match look T.ar D with
       | some p=>match Un (λi=>some (i*p.2,p.2)) zs qs with
        | some vs=>some ⟨.agg vs,none,none⟩
        | none=>none
       | none=>none
     else none
    | none=>none
   | none=>none
  | .buildSlice D n parts=>match evp f parts.toList with
   | some qs=>match look T.es D with
    | some p=>match look T.zv p.1 with
     | some zs=>bif qs.all (λq=>q.2.isV)&&Nat.beq zs.length p.2.1&&!(Nat.beq p.2.1 0)&&Nat.ble (n*p.2.1) 16777216 then
      match Un (λi=>some (i*p.2.1,p.2.1)) ((List.range (n*p.2.1)).map λk=>zs.getD (k % p.2.1) .J) qs with
      | some vs=>match h with
       | .bd ms=>bif (DW ms vs).all V.one&&(DW ms vs).all V.dat then some ⟨.sl p.2.1 (Hf p.2.1 n (DW ms vs)),none,none⟩else none
       | _=>bif vs.all V.one&&vs.all V.dat then some ⟨.own d n,some (.arr p.2.1 (Hf p.2.1 n vs)),none⟩else none
      | none=>none
      else none
     | none=>none
    | none=>none
   | none=>none
  | .extract x i=>match f x with
   | some (.tup vs)=>match vs[i]? with
    | some v=>some ⟨v,none,none⟩
    | none=>none
   | _=>none
  | .nilCheck x=>match f x with
   | some (.loc b i k)=>some ⟨.loc b i k,none,none⟩
   | _=>none
  | .makeInterface D x=>match f x with
   | some v=>bif XK T.cc D then some ⟨.ifc D v,none,none⟩else none
   | none=>none
  | .typeAssert x _ D false=>match f x with
   | some (.ifc t v)=>bif Nat.beq t D&&XK T.cc D then some ⟨v,none,none⟩else none
   | _=>none
  | .makeFunc fn first caps=>match ZV f first.toList with
   | some vs=>match ZV f caps.toList with
    | some us=>some ⟨.clo fn vs us,none,none⟩
    | none=>none
   | none=>none
  | .index D x y=>match f x with
   | some (.s s)=>match f y with
    | some (.i _ j)=>match h with
     | .num r=>bif XK T.sb D then some ⟨.i .u8 r,none,some (sidx s j=some r)⟩else none
     | _=>none
    | _=>none
   | _=>none
  | .makeSlice D x y=>match f x with
   | some v=>match f y with
    | some u=>mkV T h D d v u
    | none=>none
   | none=>none
  | .makeMap _ none=>some ⟨.map d,some (.map []),none⟩
  | .call c=>match c.callee with
   | .builtin .max=>match c.args.toList with
    | [x,y]=>match f x with
     | some v=>match f y with
      | some u=>mmV true v u
      | none=>none
     | none=>none
    | _=>none
   | .builtin .min=>match c.args.toList with
    | [x,y]=>match f x with
     | some v=>match f y with
      | some u=>mmV false v u
      | none=>none
     | none=>none
    | _=>none
   | .builtin .len=>match c.args.toList with
    | [x]=>match c.argTypes.toList with
     | [D]=>match f x with
      | some v=>Qqb T h D v
      | none=>none
     | _=>none
    | _=>none
   | .value x=>match f x with
    | some (.clo (.func fn) fs cs)=>match ZV f c.args.toList with
     | some vs=>QlQ P C T h hp d fn (fs++(vs++cs))
     | none=>none
    | _=>none
   | _=>none
  | _=>none
section
variable {P:Program}{C:Xx}{T:EF}{o:Oper}{d:Nat}{f:Operand->O_ V}{hp:Nat->O_ Ob}{σ:St}
def UU (h1:∀x u,f x=some u->σ.opd x=some u):∀{l:L_ Operand} {vs:L_ V},ZV f l=some vs->σ.opsV l=some vs:=by
 intro l
 induction l with
 | nil=>intro vs h;exact h
 | cons x l ih=>
  intro vs h
  rw[ZV]at h
  split at h
  ·rename_i v hv
   split at h
   ·rename_i us D
    cases h
    simp only[St.opsV,h1 _ _ hv,ih D]
   cases h
  cases h
def UV (h1:∀x u,f x=some u->σ.opd x=some u):∀{l:L_ (Nat×Operand)} {vs:S_},evp f l=some vs->σ.opds l=some vs:=by
 intro l
 induction l with
 | nil=>intro vs h;exact h
 | cons x l ih=>
  intro vs h
  obtain⟨i,x⟩:=x
  rw[evp]at h
  split at h
  ·rename_i v hv
   split at h
   ·rename_i us D
    cases h
    simp only[St.opds,h1 _ _ hv,ih D]
   cases h
  cases h
def XX {α:Type _}{c:Bool}{x:O_ α}{r:α}(h:(bif c then x else none)=some r):c=true/\x=some r:=by
 cases c with
 | true=>exact⟨rfl,h⟩
 | false=>cases h
def Qf4 (h2:∀b u,hp b=some u->look σ.hp b=some u){g:Bool}{m:Mode}{v u:V}{φ:O_ Prop}(h:QnO hp g m v=some (u,φ))(D:(match φ with | none=>True | some p=>p)):Rq σ.hp g v u:=by
 unfold QnO at h
 cases m with
 | d=>obtain⟨hd,h⟩:=XX h;cases h;exact .dat _ hd
 | n z=>
  dsimp only at h
  split at h
  ·cases h;exact .nil _
  cases h
 | o us=>
  dsimp only at h
  split at h
  ·dsimp only at h
   split at h
   ·rename_i z rs hb
    obtain⟨hg,h⟩:=XX h;subst hg;cases h;exact .own _ _ _ _ _ rfl (h2 _ _ hb) D.1 D.2
   cases h
  cases h
 | f n=>cases h
 | t b=>
  dsimp only at h
  split at h
  ·dsimp only at h
   split at h
   ·rename_i y u hb
    obtain⟨hg,h⟩:=XX h;subst hg;cases h
    have D:_=_:=D
    subst D
    exact .nst _ _ _ rfl (h2 _ _ hb)
   cases h
  cases h
def Vl (h2:∀b u,hp b=some u->look σ.hp b=some u){g:Bool}:∀{ms:L_ Mode} {vs us:L_ V} {k:Prop->Prop},Qbh hp g ms vs=some (us,k)->∀{p:Prop},k p->Np σ.hp g vs us/\p:=by
 intro ms
 induction ms with
 | nil=>
  intro vs us k h p D
  cases vs with
  | nil=>cases h;exact⟨.nil,D⟩
  | cons=>cases h
 | cons m ms ih=>
  intro vs us k h p D
  cases vs with
  | nil=>cases h
  | cons v vs=>
   rw[Qbh]at h
   split at h
   ·rename_i u φ hu
    split at h
    ·rename_i us' k' hus
     cases h
     cases φ with
     | none=>obtain⟨a,b⟩:=ih hus D;exact⟨.cons (Qf4 h2 hu trivial) a,b⟩
     | some q=>obtain⟨a,b⟩:=ih hus D.2;exact⟨.cons (Qf4 h2 hu D.1) a,b⟩
    cases h
   cases h
def Qb4 {D:TypeId}{cs:L_ V}{off:Nat}{φ:O_ Prop}{r:Rs}(ok:DH P T)(h:QdC T D cs off φ=some r):
  r.ob=none/\r.φ=φ/\((BR P D=some true/\∃n,Bg P D=some n/\Nat.ble (off+n) cs.length=true/\r.v=.agg ((cs.drop off).take n))\/(BR P D=some false/\cs[off]? = some r.v)):=by
 unfold QdC at h
 split at h
 ·rename_i hg
  split at h
  ·rename_i n hn
   obtain⟨h1,h⟩:=XX h
   cases h
   exact⟨rfl,rfl,.inl ⟨ok.ag hg,n,ok.sz hn,h1,rfl⟩⟩
  cases h
 ·rename_i hg
  split at h
  ·rename_i v hv
   cases h
   exact⟨rfl,rfl,.inr ⟨ok.ag hg,hv⟩⟩
  cases h
 cases h
def YE (P:Program)(C:Xx)(o:Oper)(d:Nat)(r:Rs)(σ:St):Prop:=Ql P C o σ (σ.addF ⟨d,r.v,r.ob⟩)
def YE.put {r:Rs}(D:r.ob=none)(h:Ql P C o σ (σ.put d r.v)):YE P C o d r σ:=by
 obtain⟨v,ob,φ⟩:=r
 cases D
 exact h
def Qm5 {h:Wm}{Tx:TypeId}{x:Operand}{v:V}{r:Rs}(ok:DH P T)(ho:o.op=.load Tx x)(hd:o.dst=some d)(hn:B_ d C)(hx:σ.opd x=some v)
  (h2:∀b u,hp b=some u->look σ.hp b=some u) (e:QnP T h Tx hp v=some r) (hφ:r.holds):YE P C o d r σ:=by
 unfold QnP at e
 split at e
 ·rename_i b i off
  split at e
  ·rename_i cs hb
   split at e
   ·obtain⟨e1,e2,⟨D,n,e4,e5,e6⟩|⟨D,e4⟩⟩:=Qb4 ok e
    ·refine YE.put e1 ?_;rw[e6];exact Ql.loadAL ho hd hn hx (h2 _ _ hb) D e4 e5 rfl
    exact YE.put e1 (Ql.load1L ho hd hn hx (h2 _ _ hb) D e4)
   cases e
  ·rename_i z rs hb
   split at e
   ·rename_i r'
    obtain⟨e1,e2,⟨D,n,e4,e5,e6⟩|⟨D,e4⟩⟩:=Qb4 ok e
    ·rw[Rs.holds,e2]at hφ;refine YE.put e1 ?_;rw[e6];exact Ql.loadAA ho hd hn hx (h2 _ _ hb) D e4 hφ e5 rfl
    rw[Rs.holds,e2]at hφ;exact YE.put e1 (Ql.load1A ho hd hn hx (h2 _ _ hb) D hφ e4)
   cases e
  cases e
 ·rename_i cs
  obtain⟨e1,e2,⟨D,n,e4,e5,e6⟩|⟨D,e4⟩⟩:=Qb4 ok e
  ·refine YE.put e1 ?_;rw[e6];rw[US]at e5;exact Ql.loadAR ho hd hn hx D e4 e5 rfl
  exact YE.put e1 (Ql.load1R ho hd hn hx D e4)
 cases e
def QnQ {op:BinOp}{Tx Ty:TypeId}{x y:Operand}{v u:V}{r:Rs}(ok:DH P T)(ho:o.op=.binOp op Tx x y Ty)(h:o.dst=some d)(D:B_ d C)(hx:σ.opd x=some v)(hy:σ.opd y=some u)
  (e:Qqa T op Tx v u=some r) (hφ:r.holds):YE P C o d r σ:=by
 unfold Qqa at e
 split at e
 ·rename_i k m k' n
  replace e:=XX e;obtain⟨e1,e⟩:=e
  have:=Ql6 e1;subst this
  split at e
  ·cases e;exact YE.put rfl (Ql.divi ho h D hx hy hφ (.inl ⟨rfl,rfl⟩))
  ·cases e;exact YE.put rfl (Ql.divi ho h D hx hy hφ (.inr ⟨rfl,rfl⟩))
  split at e
  ·rename_i w hw;cases e;exact YE.put rfl (Ql.bin ho h D hx hy hw)
  cases e
 ·replace e:=XX e;obtain⟨e1,e⟩:=e
  split at e
  ·cases e;exact YE.put rfl (Ql.eqB ho h D hx hy (ok.bo e1) (.inl ⟨rfl,rfl⟩))
  ·cases e;exact YE.put rfl (Ql.eqB ho h D hx hy (ok.bo e1) (.inr ⟨rfl,rfl⟩))
  cases e
 ·split at e
  ·cases e;exact YE.put rfl (Ql.eqS ho h D hx hy (.inl ⟨rfl,rfl⟩))
  ·cases e;exact YE.put rfl (Ql.eqS ho h D hx hy (.inr ⟨rfl,rfl⟩))
  cases e
 cases e
def Ql9 {Tx:TypeId}{i:Nat}{x:Operand}{v:V}{r:Rs}(ok:DH P T)(ho:o.op=.fieldAddr Tx x i)(hd:o.dst=some d)(hn:B_ d C)(hx:σ.opd x=some v)
  (e:Ql7 T Tx i v=some r):YE P C o d r σ:=by
 unfold Ql7 at e
 split at e
 ·split at e
  ·rename_i l D
   split at e
   ·rename_i n h;cases e;exact YE.put rfl (Ql.fieldL ho hd hn hx (ok.fo D h))
   cases e
  cases e
 ·split at e
  ·rename_i l D
   split at e
   ·rename_i n h;cases e;exact YE.put rfl (Ql.fieldR ho hd hn hx (ok.fo D h) rfl)
   cases e
  cases e
 cases e
def Qma {h:Wm}{Tx:TypeId}{x y:Operand}{v u:V}{r:Rs}(ok:DH P T)(ho:o.op=.indexAddr Tx x y)(hd:o.dst=some d)(hn:B_ d C)(hx:σ.opd x=some v)(hy:σ.opd y=some u)
  (h2:∀b u,hp b=some u->look σ.hp b=some u) (e:Ql8 T h Tx hp v u=some r) (hφ:r.holds):YE P C o d r σ:=by
 unfold Ql8 at e
 split at e
 ·split at e
  ·rename_i p D
   split at e
   ·replace e:=XX e;obtain⟨e1,e⟩:=e
    obtain⟨pe,pz,pb⟩:=p
    have:=Nat.eq_of_beq_eq_true e1;dsimp only at this;subst this
    cases e;exact YE.put rfl (Ql.idxS ho hd hn hx hy (ok.es D) hφ.1 hφ.2)
   cases e
  cases e
 ·split at e
  ·rename_i p D
   split at e
   ·rename_i z rs hb
    replace e:=XX e;obtain⟨e1,e⟩:=e
    obtain⟨pe,pz,pb⟩:=p
    have:=Nat.eq_of_beq_eq_true e1;dsimp only at this;subst this
    cases e;exact YE.put rfl (Ql.idxO ho hd hn hx hy (ok.es D) (h2 _ _ hb) hφ.1 hφ.2)
   cases e
  cases e
 ·split at e
  ·rename_i p D
   replace e:=XX e;obtain⟨e1,e⟩:=e
   rw[QQ,QB,QB]at e1
   cases e;exact YE.put rfl (Ql.idxAL ho hd hn hx hy (ok.ar D) e1.1 e1.2 rfl)
  cases e
 ·split at e
  ·rename_i p D
   replace e:=XX e;obtain⟨e1,e⟩:=e
   rw[QQ,QB,QB]at e1
   cases e;exact YE.put rfl (Ql.idxAR ho hd hn hx hy (ok.ar D) e1.1 e1.2 rfl)
  cases e
 cases e
def QnR {h:Wm}{Tx:TypeId}{x:Operand}{v:V}{r:Rs}(ok:DH P T)(ho:o.op=.call { callee:=.builtin .len,args:=#[x],argTypes:=#[Tx] })(hd:o.dst=some d)(hn:B_ d C)(hx:σ.opd x=some v)
  (e:Qqb T h Tx v=some r) (hφ:r.holds):YE P C o d r σ:=by
 have es:∀{t:Nat},(look T.es t).isSome=true->∃p,Yk P t=some p:=λ{t} h=>by
  cases hl:look T.es t with
  | none=>rw[hl]at h;cases h
  | some p=>exact⟨p,ok.es hl⟩
 unfold Qqb at e
 split at e
 ·replace e:=XX e;obtain⟨e1,e⟩:=e;obtain⟨p,D⟩:=es e1
  split at e
  ·cases e;exact YE.put rfl (Ql.lenS' ho hd hn hx D hφ)
  cases e;exact YE.put rfl (Ql.lenS ho hd hn hx D)
 ·replace e:=XX e;obtain⟨e1,e⟩:=e;obtain⟨p,D⟩:=es e1;cases e;exact YE.put rfl (Ql.lenO ho hd hn hx D)
 ·replace e:=XX e;obtain⟨e1,e⟩:=e;obtain⟨p,D⟩:=es e1;cases e;exact YE.put rfl (Ql.lenN ho hd hn hx D)
 ·replace e:=XX e;obtain⟨e1,e⟩:=e;cases e;exact YE.put rfl (Ql.lenStr ho hd hn hx (ok.sb e1))
 cases e
def QkZ {mx:Bool}{x y:Operand}{v u:V}{ts:Array TypeId}{r:Rs}(ho:o.op=.call { callee:=.builtin (if mx then .max else .min),args:=#[x,y],argTypes:=ts })(h:o.dst=some d)(D:B_ d C)(hx:σ.opd x=some v)(hy:σ.opd y=some u)
  (e:mmV mx v u=some r):YE P C o d r σ:=by
 unfold mmV at e
 split at e
 ·replace e:=XX e;obtain⟨e1,e⟩:=e
  have:=Ql6 e1;subst this
  cases mx with
  | true=>cases e;exact YE.put rfl (Ql.max2 ho h D hx hy)
  | false=>cases e;exact YE.put rfl (Ql.min2 ho h D hx hy)
 cases e
def QoV {h:Wm}{Tx:TypeId}{x y:Operand}{v u:V}{r:Rs}(ok:DH P T)(ho:o.op=.makeSlice Tx x y)(hd:o.dst=some d)(hn:B_ d C)(hx:σ.opd x=some v)(hy:σ.opd y=some u)
  (e:mkV T h Tx d v u=some r) (hφ:r.holds) (hf:r.ob.isSome=true->look σ.hp d=none):YE P C o d r σ:=by
 unfold mkV at e
 split at e
 ·split at e
  ·rename_i p D
   split at e
   ·rename_i zs hz
    split at e
    ·replace e:=XX e;obtain⟨e1,e⟩:=e
     simp only[QQ,Am]at e1
     obtain⟨⟨⟨a1,a2⟩,a3⟩,a4⟩:=e1
     cases e
     exact Ql.make' ho hd hn hx hy (ok.es D) (ok.zv hz) (YM a1) (λh0=>by rw[h0]at a2;cases a2) a3 hφ.1 a4 (hf rfl) hφ.2
    cases e
   cases e
  cases e
 cases e
def Gives.own {fn:Nat}{us:L_ V}{z m:Nat}{rows:L_ (L_ V)}(h:QU P fn us [] (Gives (.own 600 m) [(600,.arr z rows)]))(D:rows.length=m):QU P fn us [] (Qh5 z rows):=
 h.mono λv hs ⟨a,b⟩=>⟨600,by rw[a,D],b _ _ rfl⟩
def Qm6 {h:Wm}{fn:Nat}{vs:L_ V}{r:Rs}(ok:DH P T)(hE:Jk P C o σ fn vs)(hd:o.dst=some d)(hn:B_ d C)(D:C.pg P)
  (h2:∀b u,hp b=some u->look σ.hp b=some u) (e:QlQ P C T h hp d fn vs=some r) (hφ:r.holds) (hf:r.ob.isSome=true->look σ.hp d=none):YE P C o d r σ:=by
 unfold QlQ at e
 replace e:=XX e;obtain⟨e1,e⟩:=e
 split at e
 ·split at e
  ·rename_i us k hv
   replace e:=XX e;obtain⟨e2,e⟩:=e
   cases e
   obtain⟨a1,a2⟩:=Vl h2 hv hφ
   refine YE.put rfl (Ql.callE hE hd hn D a1 (a2.mono λ_ _ h=>h.1) ?_)
   rw[KE,QQ]at e2
   exact e2.imp (λh=>⟨by simpa using h.1,h.2⟩) id
  cases e
 ·split at e
  ·rename_i us k hv
   cases e
   obtain⟨a1,a2,a3,a4⟩:=Vl h2 hv hφ
   exact Ql.callOE hE hd hn D a1 (Gives.own a2 a3) a4 (hf rfl) a3
  cases e
 ·split at e
  ·rename_i us k hv
   replace e:=XX e;obtain⟨e2,e⟩:=e
   cases e
   obtain⟨a1,a2,a3⟩:=Vl h2 hv hφ
   exact YE.put rfl (Ql.callE hE hd hn D a1 (Gives.own a2 a3).toData (.inl ⟨by simpa using e2,rfl⟩))
  cases e
 cases e
def QdD {h:Wm}{r:Rs}(ok:DH P T)(hd:o.dst=some d)(hn:B_ d C)(hpg:C.pg P)(h1:∀x u,f x=some u->σ.opd x=some u)(h2:∀b u,hp b=some u->look σ.hp b=some u)
  (e:ev1 P C T h o d f hp=some r) (hφ:r.holds) (hf:r.ob.isSome=true->look σ.hp d=none):YE P C o d r σ:=by
 unfold ev1 at e
 split at e
 ·cases e;exact hφ σ h1 h2 hf
 split at e
 ·rename_i x D
  split at e
  ·rename_i v hv;cases e;exact YE.put rfl (Ql.move D hd hn (h1 _ _ hv))
  cases e
 ·rename_i x D
  split at e
  ·rename_i v hv;cases e;exact YE.put rfl (Ql.assign D hd hn (h1 _ _ hv))
  cases e
 ·rename_i c a b D
  split at e
  ·rename_i hc
   split at e
   ·rename_i v hv;cases e;exact YE.put rfl (Ql.pickT D hd hn (h1 _ _ hc) rfl (h1 _ _ hv))
   cases e
  ·rename_i hc
   split at e
   ·rename_i v hv;cases e;exact YE.put rfl (Ql.pickF D hd hn (h1 _ _ hc) rfl (h1 _ _ hv))
   cases e
  cases e
 ·rename_i op Tx x y Ty D
  split at e
  ·rename_i v hv
   split at e
   ·rename_i u hu;exact QnQ ok D hd hn (h1 _ _ hv) (h1 _ _ hu) e hφ
   cases e
  cases e
 ·rename_i op Tx x D
  split at e
  ·rename_i v hv
   unfold unV at e
   split at e
   ·split at e
    ·cases e;exact YE.put rfl (Ql.not D hd hn (h1 _ _ hv))
    cases e
   ·split at e
    ·cases e;exact YE.put rfl (Ql.neg D hd hn (h1 _ _ hv))
    cases e
   cases e
  cases e
 ·rename_i Tx D
  split at e
  ·rename_i zs hz;cases e;exact Ql.alloc D hd hn (ok.zv hz) (hf rfl)
  cases e
 ·rename_i Tx x D
  split at e
  ·rename_i cs hv;cases e;exact Ql.box D hd hn (h1 _ _ hv) (.inr ⟨_,rfl⟩) (hf rfl)
  ·rename_i v hne hv
   replace e:=XX e;obtain⟨e1,e⟩:=e
   cases e
   have hc:v.cells=[v]:=by cases v<;>first | rfl | exact absurd rfl (hne _)
   have:=Ql.box (P:=P) D hd hn (h1 _ _ hv) (.inl e1) (hf rfl)
   rw[hc]at this;exact this
  cases e
 ·rename_i Tx x D
  split at e
  ·rename_i v hv;exact Qm5 ok D hd hn (h1 _ _ hv) h2 e hφ
  cases e
 ·rename_i Tx x i D
  split at e
  ·rename_i v hv;exact Ql9 ok D hd hn (h1 _ _ hv) e
  cases e
 ·rename_i Tx x y D
  split at e
  ·rename_i v hv
   split at e
   ·rename_i u hu;exact Qma ok D hd hn (h1 _ _ hv) (h1 _ _ hu) h2 e hφ
   cases e
  cases e
 ·rename_i Tx parts D
  split at e
  ·rename_i qs hq
   split at e
   ·rename_i zs hz
    replace e:=XX e;obtain⟨e1,e⟩:=e
    split at e
    ·rename_i pl hpl
     split at e
     ·rename_i vs hvs;cases e;exact YE.put rfl (Ql.build D hd hn (ok.zv hz) (ok.sp hpl) (UV h1 hq) e1 hvs)
     cases e
    split at e
    ·rename_i p hp'
     split at e
     ·rename_i vs hvs;cases e;exact YE.put rfl (Ql.buildA D hd hn (ok.zv hz) (ok.ar hp') (UV h1 hq) e1 hvs)
     cases e
    cases e
   cases e
  cases e
 ·rename_i Tx n parts D
  split at e
  ·rename_i qs hq
   split at e
   ·rename_i p hp'
    split at e
    ·rename_i zs hz
     replace e:=XX e;obtain⟨e1,e⟩:=e
     split at e
     ·rename_i vs hvs
      simp only[QQ,Am]at e1
      obtain⟨⟨⟨e3,e4⟩,e5⟩,e6⟩:=e1
      have e4:=YM e4
      split at e
      ·replace e:=XX e;obtain⟨e2,e⟩:=e
       cases e
       rw[QQ]at e2
       exact YE.put rfl (Ql.buildSliceD _ D hd hn (ok.es hp') (ok.zv hz) e4 (λh0=>by rw[h0]at e5;cases e5) (Ke e6) (UV h1 hq) e3 hvs e2.1 e2.2 rfl)
      replace e:=XX e;obtain⟨e2,e⟩:=e
      cases e
      rw[QQ]at e2
      exact Ql.buildSlice D hd hn (ok.es hp') (ok.zv hz) e4 (λh0=>by rw[h0]at e5;cases e5) (Ke e6) (UV h1 hq) e3 hvs e2.1 e2.2 rfl (hf rfl)
     cases e
    cases e
   cases e
  cases e
 ·rename_i x i D
  split at e
  ·rename_i vs hv
   split at e
   ·rename_i v hv';cases e;exact YE.put rfl (Ql.extract D hd hn (h1 _ _ hv) hv')
   cases e
  cases e
 ·rename_i x D
  split at e
  ·rename_i hv;cases e;exact YE.put rfl (Ql.nilCheckL D hd hn (h1 _ _ hv))
  cases e
 ·rename_i Tx x D
  split at e
  ·rename_i v hv
   replace e:=XX e;obtain⟨e1,e⟩:=e
   cases e;exact YE.put rfl (Ql.makeInterface D hd hn (h1 _ _ hv) (ok.cc e1))
  cases e
 ·rename_i x S Tx D
  split at e
  ·rename_i t v hv
   replace e:=XX e;obtain⟨e1,e⟩:=e
   rw[QQ]at e1
   have:=YM e1.1;subst this
   cases e;exact YE.put rfl (Ql.typeAssert D hd hn (h1 _ _ hv) (ok.cc e1.2))
  cases e
 ·rename_i fn first caps D
  split at e
  ·rename_i vs hv
   split at e
   ·rename_i us hu;cases e;exact YE.put rfl (Ql.makeFunc D hd hn (UU h1 hv) (UU h1 hu))
   cases e
  cases e
 ·rename_i Tx x y D
  split at e
  ·rename_i s hs
   split at e
   ·rename_i k j hj
    split at e
    ·replace e:=XX e;obtain⟨e1,e⟩:=e
     cases e;exact YE.put rfl (Ql.idxStr' D hd hn (h1 _ _ hs) (h1 _ _ hj) (ok.sb e1) hφ)
    cases e
   cases e
  cases e
 ·rename_i Tx x y D
  split at e
  ·rename_i v hv
   split at e
   ·rename_i u hu;exact QoV ok D hd hn (h1 _ _ hv) (h1 _ _ hu) e hφ hf
   cases e
  cases e
 ·rename_i D;cases e;exact Ql.makeMap D hd hn (hf rfl)
 ·rename_i c D
  obtain⟨cl,ags,ts⟩:=c
  split at e
  ·rename_i hc
   dsimp only at hc e;subst hc
   split at e
   ·rename_i x y hxy
    split at e
    ·rename_i v hv
     split at e
     ·rename_i u hu
      have ea:ags=#[x,y]:=by rw[<-ZM (xs:=ags),hxy]
      subst ea
      exact QkZ (mx:=true) D hd hn (h1 _ _ hv) (h1 _ _ hu) e
     cases e
    cases e
   cases e
  ·rename_i hc
   dsimp only at hc e;subst hc
   split at e
   ·rename_i x y hxy
    split at e
    ·rename_i v hv
     split at e
     ·rename_i u hu
      have ea:ags=#[x,y]:=by rw[<-ZM (xs:=ags),hxy]
      subst ea
      exact QkZ (mx:=false) D hd hn (h1 _ _ hv) (h1 _ _ hu) e
     cases e
    cases e
   cases e
  ·rename_i hc
   dsimp only at hc e;subst hc
   split at e
   ·rename_i x hx
    split at e
    ·rename_i Tx hT
     split at e
     ·rename_i v hv
      have ea:ags=#[x]:=by rw[<-ZM (xs:=ags),hx]
      have et:ts=#[Tx]:=by rw[<-ZM (xs:=ts),hT]
      subst ea;subst et
      exact QnR ok D hd hn (h1 _ _ hv) e hφ
     cases e
    cases e
   cases e
  ·rename_i x hc
   dsimp only at hc e;subst hc
   split at e
   ·rename_i fn fs cs hx
    split at e
    ·rename_i vs hv
     have e1:XK T.en fn=true:=by unfold QlQ at e;exact(XX e).1
     exact Qm6 ok (Jk.clo D (h1 _ _ hx) (ok.en e1) (UU h1 hv)) hd hn hpg h2 e hφ hf
    cases e
   cases e
  cases e
 cases e
end
inductive Fr where
 | seq (y:Code)
 | blk (id:Nat)
 | cut (K:St->Prop)
inductive Pt where
 | c (c:Code)
 | o (ops:Array Oper) (l:List Oper)
 | x (e:Exit)
section
variable (P:Program)(C:Xx)(Q:Exit->St->Prop)
def unw : L_ Fr->Exit->St->Prop
 | []=>Q
 | .seq y::k=>QbS (λσ=>YB P C y σ (unw k)) (unw k)
 | .blk id::k=>Vf id (unw k)
 | .cut K::k=>QbS K (unw k)
def AK (pt:Pt)(ks:L_ Fr)(σ:St):Prop:=match pt with
 | .c c=>YB P C c σ (unw P C Q ks)
 | .o ops l=>AL P C ops l σ (unw P C Q ks)
 | .x e=>∀a w,R C σ a w->up C (unw P C Q ks) e a w
end
section
variable {P:Program}{C:Xx}{Q:Exit->St->Prop}{σ σ':St}{ks:L_ Fr}
def AK.weaken {pt:Pt}(h:∀a w,R C σ a w->R C σ' a w)(k:AK P C Q pt ks σ'):AK P C Q pt ks σ:=by
 cases pt with
 | c c=>exact λa w D=>k a w (h a w D)
 | o ops l=>exact λa w D=>k a w (h a w D)
 | x e=>exact λa w D=>k a w (h a w D)
def AK.done {e:Exit}(h:Q e σ):AK P C Q (.x e) [] σ:=λa w D=>⟨σ,h,D⟩
def AK.met {K:St->Prop}(h:K σ):AK P C Q (.x .normal) (.cut K::ks) σ:=λa w D=>⟨σ,h,D⟩
def AK.seq {x y:Code}(h:AK P C Q (.c x) (.seq y::ks) σ):AK P C Q (.c (.seq x y)) ks σ:=YB.seq h
def AK.block {id:Nat}{x:Code}(h:AK P C Q (.c x) (.blk id::ks) σ):AK P C Q (.c (.block id x)) ks σ:=YB.block h
def AK.region {id:Nat}{ops:Array Oper}(h:AK P C Q (.o ops ops.toList) ks σ):AK P C Q (.c (.region id ops false)) ks σ:=YB.region h
def AK.skip (h:AK P C Q (.x .normal) ks σ):AK P C Q (.c .skip) ks σ:=λa w D=>wpIn_skip (h a w D)
def AK.label {l:Nat}(h:AK P C Q (.x .normal) ks σ):AK P C Q (.c (.label l)) ks σ:=λa w D=>wpIn_label (h a w D)
def AK.exit {id:Nat}(h:AK P C Q (.x (.exit id)) ks σ):AK P C Q (.c (.exit id)) ks σ:=λa w D=>wpIn_exit (h a w D)
def AK.ret (h:AK P C Q (.x .ret) ks σ):AK P C Q (.c .ret) ks σ:=λa w D=>wpIn_ret (h a w D)
def AK.nil {ops:Array Oper}(h:AK P C Q (.x .normal) ks σ):AK P C Q (.o ops []) ks σ:=h
def AK.popSeq {y:Code}(h:AK P C Q (.c y) ks σ):AK P C Q (.x .normal) (.seq y::ks) σ:=λa w D=>⟨σ,h,D⟩
def AK.popBlk {id:Nat}(h:AK P C Q (.x .normal) ks σ):AK P C Q (.x .normal) (.blk id::ks) σ:=h
def AK.exSeq {y:Code}{i:Nat}(h:AK P C Q (.x (.exit i)) ks σ):AK P C Q (.x (.exit i)) (.seq y::ks) σ:=h
def AK.exCut {K:St->Prop}{i:Nat}(h:AK P C Q (.x (.exit i)) ks σ):AK P C Q (.x (.exit i)) (.cut K::ks) σ:=h
def AK.exBlk {i j:Nat}(e:Nat.beq i j=true)(h:AK P C Q (.x .normal) ks σ):AK P C Q (.x (.exit i)) (.blk j::ks) σ:=λa w D=>
 let ⟨σ',h1,h2⟩:=h a w D;⟨σ',Qta e h1,h2⟩
def AK.exBlk' {i j:Nat}(e:Nat.beq i j=false)(h:AK P C Q (.x (.exit i)) ks σ):AK P C Q (.x (.exit i)) (.blk j::ks) σ:=λa w D=>
 let ⟨σ',h1,h2⟩:=h a w D;⟨σ',Qtb e h1,h2⟩
def AK.retPop {f:Fr}(h:AK P C Q (.x .ret) ks σ):AK P C Q (.x .ret) (f::ks) σ:=by
 cases f<;>exact h
def AK.meet {x y:Code}(K:St->Prop)(h:AK P C Q (.c x) (.cut K::ks) σ)(D:∀σ',K σ'->AK P C Q (.c y) ks σ'):AK P C Q (.c (.seq x y)) ks σ:=YB.seqK K h D
def AK.meetX {c:Code}(K:St->Prop)(hx:AK P C Q (.c c) (.cut K::ks) σ)(hy:∀σ',K σ'->AK P C Q (.x .normal) ks σ'):AK P C Q (.c c) ks σ:=by
 intro a w hR
 refine wpIn_mono (hx a w hR) ?_
 rintro e a w ⟨σ',h,D⟩
 cases e<;>first | exact hy σ' h a w D | exact⟨σ',h,D⟩
def Qmb {τ ρ:Type}(E:τ->St->Prop)(h:ρ->Exit->St->Prop)(o:τ⊕ρ):Exit->St->Prop:=
 QbS (λσ'=>∃D,o=.inl D/\E D σ') (λe σ'=>∃r,o=.inr r/\h r e σ')
def Vn {τ ρ:Type}{E:τ->St->Prop}{D:ρ->Exit->St->Prop}{o:τ⊕ρ}{s':τ}(h:o=.inl s')(he:E s' σ):AK P C (Qmb E D o) (.x .normal) [] σ:=AK.done ⟨s',h,he⟩
def QaV {τ ρ:Type}{E:τ->St->Prop}{D:ρ->Exit->St->Prop}{o:τ⊕ρ}{r:ρ}{i:Nat}(h:o=.inr r)(he:D r (.exit i) σ):AK P C (Qmb E D o) (.x (.exit i)) [] σ:=AK.done ⟨r,h,he⟩
def QnS {τ ρ:Type}{E:τ->St->Prop}{D:ρ->Exit->St->Prop}{o:τ⊕ρ}{r:ρ}(h:o=.inr r)(he:D r .ret σ):AK P C (Qmb E D o) (.x .ret) [] σ:=AK.done ⟨r,h,he⟩
def AK.loop {τ ρ:Type}{body:τ->O_ (τ⊕ρ)}{c:Code}(E:τ->St->Prop)(D:ρ->Exit->St->Prop){s0:τ}{r:ρ}(hr:Qu body s0=some r)(h0:E s0 σ)
  (round:∀s o σ,E s σ->body s=some o->AK P C (Qmb E D o) (.c c) [] σ) (hQ:∀e σ',D r e σ'->AK P C Q (.x e) ks σ'):AK P C Q (.c (.loop c)) ks σ:=by
 intro a w hR
 refine wpIn_mono (YB.loop (Q:=λe σ'=>D r e σ') E D round (Sr.1 hr) h0 (λe σ' h=>h) a w hR) ?_
 rintro e a' w' ⟨σ',hp,hR'⟩
 exact hQ e σ' hp a' w' hR'
end
def V.isUnd : V->Bool
 | .lit (.tuple a)=>a.isEmpty
 | _=>false
def V.isUnd_eq {v:V}(h:v.isUnd=true):v=.lit undef:=by
 unfold V.isUnd at h
 split at h
 ·rename_i a;rw[Array.isEmpty_iff]at h;subst h;rfl
 cases h
inductive Ent where
 | fn
 | clo
 | me (f:Nat)
 | mv (f e:Nat)
def Ei : L_ (Nat×Nat)->Nat->O_ Nat
 | [],_=>none
 | (b,h)::r,a=>bif Nat.beq h a then some b else Ei r a
def trC (bk:Nat->O_ Nat):V->O_ V
 | .own a n=>match bk a with
  | some b=>some (.own b n)
  | none=>none
 | .loc a i d=>match bk a with
  | some b=>some (.loc b i d)
  | none=>none
 | .map a=>match bk a with
  | some b=>some (.map b)
  | none=>none
 | .ifc t x=>match trC bk x with
  | some y=>some (.ifc t y)
  | none=>none
 | v=>bif v.datA then some v else none
def trL (bk:Nat->O_ Nat):L_ V->O_ (L_ V)
 | []=>some []
 | v::vs=>match trC bk v with
  | some u=>match trL bk vs with
   | some us=>some (u::us)
   | none=>none
  | none=>none
def trV (bk:Nat->O_ Nat):V->O_ V
 | .agg h=>bif (V.agg h).datA then some (.agg h)else match trL bk h with
  | some us=>some (.agg us)
  | none=>none
 | .tup h=>bif (V.tup h).datA then some (.tup h)else match trL bk h with
  | some us=>some (.tup us)
  | none=>none
 | .clo fn fs h=>match trL bk fs with
  | some us=>match trL bk h with
   | some D=>some (.clo fn us D)
   | none=>none
  | none=>none
 | v=>trC bk v
def Qmc (bk:Nat->O_ Nat):L_ V->O_ (L_ V)
 | []=>some []
 | v::vs=>match trV bk v with
  | some u=>match Qmc bk vs with
   | some us=>some (u::us)
   | none=>none
  | none=>none
def trO (bk:Nat->O_ Nat):Ob->O_ Ob
 | .var h=>match Qmc bk h with
  | some us=>some (.var us)
  | none=>none
 | .lp l K h q=>match Qmc bk h with
  | some us=>some (.lp l K us q)
  | none=>none
 | .arr z rs=>some (.arr z rs)
 | .map l=>some (.map l)
 | .grp z l D=>some (.grp z l D)
 | .tbl A z rs=>some (.tbl A z rs)
 | _=>none
def QrM (bk:Nat->O_ Nat):Mode->V->O_ V
 | .n z,.lit (.slice none 0 0)=>some (.sl z [])
 | .d,v=>trV bk v
 | .f n,.agg h=>match trL bk (h.set n .J)with
  | some us=>match us[n]? with
   | some .J=>some (.agg us)
   | _=>none
  | none=>none
 | _,_=>none
def OZ (bk:Nat->O_ Nat):L_ Mode->L_ V->O_ (L_ V)
 | [],[]=>some []
 | m::ms,v::vs=>match QrM bk m v with
  | some u=>match OZ bk ms vs with
   | some us=>some (u::us)
   | none=>none
  | none=>none
 | _,_=>none
def HF (bk:Nat->O_ Nat)(src:Nat->O_ Ob):L_ (Nat×Nat)->O_ H_
 | []=>some []
 | (d,s)::r=>match src s with
  | some ob=>match trO bk ob with
   | some ob'=>match HF bk src r with
    | some l=>some ((d,ob')::l)
    | none=>none
   | none=>none
  | none=>none
def Qqc (P:Program)(T:EF)(σ:St)(φ:Prop)(c:Call):Ent->O_ (Nat×L_ V×Prop)
 | .fn=>match c.callee with
  | .value (.func f)=>bif XK T.en f then match ZV σ.opd c.args.toList with
   | some vs=>some (f,vs,φ)
   | none=>none
   else none
  | _=>none
 | .clo=>match c.callee with
  | .value x=>match σ.opd x with
   | some (.clo (.func f) fs h)=>bif XK T.en f then match ZV σ.opd c.args.toList with
    | some vs=>some (f,fs++(vs++h),φ)
    | none=>none
    else none
   | _=>none
  | _=>none
 | .me f=>match c.callee with
  | .invoke x name=>match σ.opd x with
   | some (.ifc t u)=>bif XK T.en f then match ZV σ.opd c.args.toList with
    | some vs=>some (f,u::vs,φ/\((OY P t name=some (f,true)/\Ql2 P t=true)\/(OY P t name=some (f,false)/\QdA P t=true)))
    | none=>none
    else none
   | _=>none
  | _=>none
 | .mv f e=>match c.callee with
  | .invoke x name=>match σ.opd x with
   | some (.ifc t (.loc b 0 off))=>match look σ.hp b with
    | some (.var h)=>match h[off]? with
     | some r=>bif XK T.en f then match ZV σ.opd c.args.toList with
      | some vs=>some (f,r::vs,φ/\(OY P t name=some (f,false)/\Qh9 P t e=true/\BR P e=some false))
      | none=>none
      else none
     | none=>none
    | _=>none
   | _=>none
  | _=>none
def cmV (P:Program)(σ:St)(φ:Prop)(d f:Nat)(vs:L_ V)(M N:L_ (Nat×Nat))(dead:L_ Nat)(ms:L_ Mode)(outs:H_)(r:V):O_ (St×Prop):=
 bif GI σ M N dead outs&&Cw (M.map Prod.fst)&&Cw (N.map Prod.fst)then match OZ (Ei M) ms vs with
  | some us=>match HF (Ei M) (look σ.hp) M with
   | some h=>match HF (Ei N) (look outs) N with
    | some D=>match trV (Ei N) r with
     | some r'=>some ((σ.after dead D).put d r',φ/\QU P f us h (Gives r outs))
     | none=>none
    | none=>none
   | none=>none
  | none=>none
 else none
inductive Bi where
 | n (k:Nat)
 | o (h:Wm)
 | v (h:Wm) (ms:List (Option Nat)) (v:V)
 | br (b:Bool)
 | st (r:List V) (rs:List (List V))
 | app (rs:List (List V)) (m:Nat)
 | x (g:St->St)
 | say (t:Nat) (v:V)
 | sayO (b:Nat) (ob:Ob)
 | adopt (t b z:Nat)
 | denil (t:Nat) (ms:List (Option Nat))
 | denilO (b:Nat) (ms:List (Option Nat))
 | ren (o o':Nat)
 | kill (b:Nat)
 | keep (ts os:List Nat)
 | frz (b:Nat) (us:List (List V)) (ts os:List Nat)
 | adoptO (p i b z:Nat)
 | cm (en:Ent) (M N:List (Nat×Nat)) (dead:List Nat) (ms:List Mode) (outs:List (Nat×Ob)) (r:V)
structure Cfg where
 pt:Pt
 ks:List Fr
 σ:St
 φ:Prop
def Vo (φ:Prop):O_ Prop->Prop
 | none=>φ
 | some p=>φ/\p
def ctl : Pt->L_ Fr->St->O_ (Pt×L_ Fr)
 | .c (.seq x y),ks,_=>some (.c x,.seq y::ks)
 | .c (.block id x),ks,_=>some (.c x,.blk id::ks)
 | .c (.region _ ops false),ks,_=>some (.o ops ops.toList,ks)
 | .c .skip,ks,_=>some (.x .normal,ks)
 | .c (.label _),ks,_=>some (.x .normal,ks)
 | .c (.exit i),ks,_=>some (.x (.exit i),ks)
 | .c .ret,ks,_=>some (.x .ret,ks)
 | .c (.cond c x y),ks,σ=>match σ.opd c with
  | some (.b true)=>some (.c x,ks)
  | some (.b false)=>some (.c y,ks)
  | _=>none
 | .o _ [],ks,_=>some (.x .normal,ks)
 | .x .normal,.seq y::ks,_=>some (.c y,ks)
 | .x .normal,.blk _::ks,_=>some (.x .normal,ks)
 | .x (.exit i),.seq _::ks,_=>some (.x (.exit i),ks)
 | .x (.exit i),.cut _::ks,_=>some (.x (.exit i),ks)
 | .x (.exit i),.blk j::ks,_=>bif Nat.beq i j then some (.x .normal,ks)else some (.x (.exit i),ks)
 | .x .ret,_::ks,_=>some (.x .ret,ks)
 | _,_,_=>none
def Ur (ops:Array Oper)(o:Oper)(f:Nat->O_ V):O_ Bool:=match o.guard with
 | none=>some true
 | some (j,t)=>match ops[j]? with
  | some h=>match h.dst with
   | some d=>match f d with
    | some (.b true)=>some t
    | some (.b false)=>some (!t)
    | some v=>bif v.isUnd then some false else none
    | none=>none
   | none=>none
  | none=>none
def QoW (T:EF)(D:TypeId)(σ:St)(φ:Prop):V->V->O_ (St×Prop)
 | .loc b i off,v=>match look σ.hp b with
  | some (.var h)=>match i with
   | 0=>match look T.sz D with
    | some n=>bif v.isV&&Nat.beq v.cells.length n&&v.cells.all V.one&&Nat.ble (off+n) h.length then some (σ.set b (.var (KU h off v.cells)),φ)else none
    | none=>none
   | _=>none
  | _=>none
 | _,_=>none
def storeA (T:EF)(D:TypeId)(σ:St)(φ:Prop)(r:L_ V)(h:L_ (L_ V)):V->V->O_ (St×Prop)
 | .loc b i off,v=>match look σ.hp b with
  | some (.arr z rs)=>match look T.sz D with
    | some n=>bif v.isV&&Nat.beq v.cells.length n&&v.cells.all V.one&&v.cells.all V.dat&&Nat.ble (off+n) z then
     some (σ.set b (.arr z h),φ/\(rs[i]? = some r/\rs.set i (KU r off v.cells)=h))else none
    | none=>none
  | _=>none
 | _,_=>none
def Yx (P:Program)(C:Xx)(T:EF)(n:Nat)(h:Wm)(D:O_ (L_ (O_ Nat)×V))(o:Oper)(σ:St)(φ:Prop):O_ (St×Prop):=match o.dst with
 | some d=>bif Nat.ble (d+1) n then match ev1 P C T h o d σ.opd (look σ.hp)with
  | some ⟨v,none,q⟩=>match D with
   | none=>some (σ.put d v,Vo φ q)
   | some (ms,u)=>some (σ.put d u,Vo φ q/\v.denil ms=u)
  | some ⟨v,some ob,q⟩=>match look σ.hp d with
   | none=>match D with
    | none=>some ((σ.set d ob).put d v,Vo φ q)
    | some (ms,u)=>some ((σ.set d ob).put d u,Vo φ q/\v.denil ms=u)
   | some _=>none
  | none=>none
  else none
 | none=>match o.op with
  | .store Tx x y=>match σ.opd x with
   | some p=>match σ.opd y with
    | some v=>QoW T Tx σ φ p v
    | none=>none
   | none=>none
  | _=>none
def Qqd (T:EF)(n:Nat)(σ:St)(φ:Prop)(h:L_ (L_ V))(m:Nat)(d Tx Ty:Nat):V->V->O_ (St×Prop)
 | .own b k,y=>match look σ.hp b with
  | some (.arr z rs)=>match look T.es Tx with
   | some (e,z',by_)=>match look T.zv e with
    | some zs=>bif (look T.es Ty).isSome&&Nat.ble (d+1) n&&!(Nat.ble 620 b)&&Nat.beq z z'&&Nat.beq zs.length z&&!(Nat.beq z 0)&&Nat.ble by_ 32768 then match y with
     | .sl D us=>bif Nat.beq z D then some (σ.app b z d m h,φ/\(rs.length=k/\decide (k+us.length<=4294967296)=true/\rs++us=h/\k+us.length=m))else none
     | .own b' k'=>match look σ.hp b' with
      | some (.arr D us)=>bif Nat.beq z D then some (σ.app b z d m h,φ/\(rs.length=k/\decide (k+k'<=4294967296)=true/\us.length=k'/\rs++us=h/\k+k'=m))else none
      | _=>none
     | .lit (.slice none 0 0)=>some (σ.app b z d k rs,φ/\(rs.length=k/\decide (k<=4294967296)=true))
     | _=>none
     else none
    | none=>none
   | none=>none
  | _=>none
 | _,_=>none
def Ej {α:Type}(l:L_ (Nat×α)):L_ Nat->O_ (L_ (Nat×α))
 | []=>some []
 | t::h=>match look l t with
  | some v=>match Ej l h with
   | some r=>some ((t,v)::r)
   | none=>none
  | none=>none
def V.frzC (b:Nat)(v s:V):V:=match v with
 | .own o k=>bif Nat.beq o b then s else .own o k
 | v=>v
def V.frz (b:Nat)(v s:V):V:=match v with
 | .agg h=>.agg (h.map λv=>v.frzC b s)
 | v=>v.frzC b s
def Qmd (b:Nat)(rs us:L_ (L_ V)):V->Prop
 | .own o k=>bif Nat.beq o b then k<=rs.length/\rs.take k=us else True
 | _=>True
def Qb5 (b:Nat)(rs us:L_ (L_ V)):L_ V->Prop
 | []=>True
 | .own o k::r=>Qmd b rs us (.own o k)/\Qb5 b rs us r
 | _::r=>Qb5 b rs us r
def Qqe (b:Nat)(rs us:L_ (L_ V)):V->Prop
 | .agg h=>Qb5 b rs us h
 | v=>Qmd b rs us v
def V.isOwn (b:Nat):V->Bool
 | .own o _=>Nat.beq o b
 | _=>false
def V.frzB (b:Nat):V->Bool
 | .agg h=>h.all λc=>c.freeC b||c.isOwn b
 | v=>v.freeC b||v.isOwn b
def Qgk (b:Nat)(s:V)(rs us:L_ (L_ V))(σ0:St):L_ Nat->St->Prop->O_ (St×Prop)
 | [],σ,φ=>some (σ,φ)
 | t::h,σ,φ=>match look σ0.fr t with
  | some v=>bif v.frzB b then Qgk b s rs us σ0 h (σ.put t (v.frz b s)) (φ/\Qqe b rs us v)else none
  | none=>none
def Qme (b:Nat)(s:V)(rs us:L_ (L_ V))(σ0:St):L_ Nat->St->Prop->O_ (St×Prop)
 | [],σ,φ=>some (σ,φ)
 | p::D,σ,φ=>match look σ0.hp p with
  | some (.var h)=>bif !(Nat.beq p b)&&h.all (λc=>c.freeC b||c.isOwn b)&&(look σ.hp p).isSome then Qme b s rs us σ0 D (σ.set p (.var (h.map λv=>v.frzC b s))) (φ/\Qb5 b rs us h)else none
  | _=>none
def Qqf (P:Program)(C:Xx)(T:EF)(n:Nat):Bi->Pt->L_ Fr->St->Prop->O_ Cfg
 | .o h,.o ops (o::l),ks,σ,φ=>match Ur ops o (look σ.fr)with
  | some true=>match Yx P C T n h none o σ φ with
   | some (σ',φ')=>some ⟨.o ops l,ks,σ',φ'⟩
   | none=>none
  | _=>none
 | .v h ms u,.o ops (o::l),ks,σ,φ=>match Ur ops o (look σ.fr)with
  | some true=>match Yx P C T n h (some (ms,u)) o σ φ with
   | some (σ',φ')=>some ⟨.o ops l,ks,σ',φ'⟩
   | none=>none
  | _=>none
 | .st r rs,.o ops (o::l),ks,σ,φ=>match Ur ops o (look σ.fr)with
  | some true=>match o.dst with
   | none=>match o.op with
    | .store Tx x y=>match σ.opd x with
     | some p=>match σ.opd y with
      | some v=>match storeA T Tx σ φ r rs p v with
       | some (σ',φ')=>some ⟨.o ops l,ks,σ',φ'⟩
       | none=>none
      | none=>none
     | none=>none
    | _=>none
   | some _=>none
  | _=>none
 | .app rs m,.o ops (o::l),ks,σ,φ=>match Ur ops o (look σ.fr)with
  | some true=>match o.dst with
   | some d=>match o.op with
    | .call c=>match c.callee with
     | .builtin .append=>match c.args.toList with
      | [x,y]=>match c.argTypes.toList with
       | [Tx,Ty]=>match σ.opd x with
        | some p=>match σ.opd y with
         | some v=>match Qqd T n σ φ rs m d Tx Ty p v with
          | some (σ',φ')=>some ⟨.o ops l,ks,σ',φ'⟩
          | none=>none
         | none=>none
        | none=>none
       | _=>none
      | _=>none
     | _=>none
    | _=>none
   | none=>none
  | _=>none
 | .x g,.o ops (o::l),ks,σ,φ=>match Ur ops o (look σ.fr)with
  | some true=>some ⟨.o ops l,ks,g σ,φ/\Ql P C o σ (g σ)⟩
  | _=>none
 | .cm en M N dead ms outs r,.o ops (o::l),ks,σ,φ=>match Ur ops o (look σ.fr)with
  | some true=>match o.dst with
   | some d=>bif Nat.ble (d+1) n then match o.op with
    | .call c=>match Qqc P T σ φ c en with
     | some (f,vs,φ1)=>match cmV P σ φ1 d f vs M N dead ms outs r with
      | some (σ',φ')=>some ⟨.o ops l,ks,σ',φ'⟩
      | none=>none
     | none=>none
    | _=>none
    else none
   | none=>none
  | _=>none
 | .br b,.c (.cond c x y),ks,σ,φ=>match σ.opd c with
  | some (.b t)=>match b with
   | true=>some ⟨.c x,ks,σ,φ/\t=true⟩
   | false=>some ⟨.c y,ks,σ,φ/\t=false⟩
  | _=>none
 | .say t v,pt,ks,σ,φ=>match look σ.fr t with
  | some u=>some ⟨pt,ks,σ.put t v,φ/\u=v⟩
  | none=>none
 | .sayO b ob,pt,ks,σ,φ=>match look σ.hp b with
  | some u=>some ⟨pt,ks,σ.set b ob,φ/\u=ob⟩
  | none=>none
 | .adopt t b z,pt,ks,σ,φ=>match look σ.fr t with
  | some (.lit (.slice none 0 0))=>match look σ.hp b with
   | none=>bif Nat.ble 620 b then none else some ⟨pt,ks,(σ.set b (.arr z [])).put t (.own b 0),φ⟩
   | some _=>none
  | _=>none
 | .denil t ms,pt,ks,σ,φ=>match look σ.fr t with
  | some v=>some ⟨pt,ks,σ.put t (v.denil ms),φ⟩
  | none=>none
 | .denilO b ms,pt,ks,σ,φ=>match look σ.hp b with
  | some (.var D)=>some ⟨pt,ks,σ.set b (.var (DW ms D)),φ⟩
  | _=>none
 | .ren o o',pt,ks,σ,φ=>bif !(Nat.ble 618 o)&&!(Nat.ble 618 o')&&(look σ.hp o').isNone then some ⟨pt,ks,σ.ren o o',φ⟩else none
 | .kill b,pt,ks,σ,φ=>some ⟨pt,ks,σ.kill b,φ⟩
 | .frz b us ts os,pt,ks,σ,φ=>match look σ.hp b with
  | some (.arr z rs)=>bif !(Nat.ble 618 b)then match Qgk b (.sl z us) rs us σ ts (σ.kill b) True with
   | some (σ1,φ1)=>match Qme b (.sl z us) rs us σ os σ1 φ1 with
    | some (σ2,φ2)=>some ⟨pt,ks,σ2,φ/\φ2⟩
    | none=>none
   | none=>none
   else none
  | _=>none
 | .adoptO p i b z,pt,ks,σ,φ=>match look σ.hp p with
  | some (.var D)=>match D[i]? with
   | some (.lit (.slice none 0 0))=>match look σ.hp b with
    | none=>bif Nat.beq p b||Nat.ble 620 b then none else some ⟨pt,ks,(σ.set b (.arr z [])).set p (.var (D.set i (.own b 0))),φ⟩
    | some _=>none
   | _=>none
  | _=>none
 | .keep ts os,pt,ks,σ,φ=>match Ej σ.fr ts with
  | some fr=>match Ej σ.hp os with
   | some hp=>bif St.closed ⟨fr,hp⟩then some ⟨pt,ks,⟨fr,hp⟩,φ⟩else none
   | none=>none
  | none=>none
 | _,_,_,_,_=>none
def plain (P:Program)(C:Xx)(T:EF)(n:Nat):Nat->Pt->L_ Fr->St->Prop->O_ Cfg
 | 0,pt,ks,σ,φ=>some ⟨pt,ks,σ,φ⟩
 | k+1,.o ops (o::l),ks,σ,φ=>match Ur ops o (look σ.fr)with
  | some true=>match Yx P C T n .no none o σ φ with
   | some (σ',φ')=>plain P C T n k (.o ops l) ks σ' φ'
   | none=>none
  | some false=>match o.dst with
   | some d=>bif Nat.ble (d+1) n then plain P C T n k (.o ops l) ks (σ.put d (.lit undef)) φ else none
   | none=>plain P C T n k (.o ops l) ks σ φ
  | none=>none
 | k+1,pt,ks,σ,φ=>match ctl pt ks σ with
  | some (D,h)=>plain P C T n k D h σ φ
  | none=>none
def go (P:Program)(C:Xx)(T:EF)(n:Nat):L_ Bi->Pt->L_ Fr->St->Prop->O_ Cfg
 | [],pt,ks,σ,φ=>some ⟨pt,ks,σ,φ⟩
 | .n k::ds,pt,ks,σ,φ=>match plain P C T n k pt ks σ φ with
  | some ⟨D,h,σ',φ'⟩=>go P C T n ds D h σ' φ'
  | none=>none
 | d::ds,pt,ks,σ,φ=>match Qqf P C T n d pt ks σ φ with
  | some ⟨D,h,σ',φ'⟩=>go P C T n ds D h σ' φ'
  | none=>none
section
variable {P:Program}{C:Xx}{T:EF}{Q:Exit->St->Prop}{n:Nat}{φ:Nat->O_ Xa}{σ:St}{a:Act}{w:World}
def QnT (P:Program)(C:Xx)(Q:Exit->St->Prop)(pt:Pt)(ks:L_ Fr)(σ:St)(φ:Prop)(c:Cfg):Prop:=c.φ->φ/\(AK P C Q c.pt c.ks c.σ->AK P C Q pt ks σ)
def Vp {φ:Prop}{q:O_ Prop}{v:V}{ob:O_ Ob}(h:Vo φ q):φ/\Rs.holds ⟨v,ob,q⟩:=by
 cases q with
 | none=>exact⟨h,trivial⟩
 | some p=>exact h
def QoX {pt pt':Pt}{ks D:L_ Fr}{σ:St}(h:ctl pt ks σ=some (pt',D))(k:AK P C Q pt' D σ):AK P C Q pt ks σ:=by
 unfold ctl at h
 split at h
 ·cases h;exact AK.seq k
 ·cases h;exact AK.block k
 ·cases h;exact AK.region k
 ·cases h;exact AK.skip k
 ·cases h;exact AK.label k
 ·cases h;exact AK.exit k
 ·cases h;exact AK.ret k
 ·split at h
  ·rename_i hc;cases h;exact YB.cond_true hc k
  ·rename_i hc;cases h;exact YB.cond_false hc k
  cases h
 ·cases h;exact AK.nil k
 ·cases h;exact AK.popSeq k
 ·cases h;exact AK.popBlk k
 ·cases h;exact AK.exSeq k
 ·cases h;exact AK.exCut k
 ·rename_i _ i j ks
  cases hb:Nat.beq i j with
  | true=>rw[hb]at h;cases h;exact AK.exBlk hb k
  | false=>rw[hb]at h;cases h;exact AK.exBlk' hb k
 ·cases h;exact AK.retPop k
 cases h
def Ss {ops:Array Oper}{o:Oper}{f:Nat->O_ V}{b:Bool}(h:Ur ops o f=some b):
  (o.guard=none/\b=true)\/∃j t d,o.guard=some (j,t)/\((ops[j]?).bind (·.dst))=some d/\((∃u,f d=some (.b u)/\b=(u==t))\/(f d=some (.lit undef)/\b=false)):=by
 unfold Ur at h
 split at h
 ·rename_i hg;cases h;exact .inl ⟨hg,rfl⟩
 rename_i j t hg
 split at h
 ·rename_i oj hj
  split at h
  ·rename_i d hd
   have hjd:((ops[j]?).bind (·.dst))=some d:=by rw[hj];exact hd
   refine .inr ⟨j,t,d,hg,hjd,?_⟩
   split at h
   ·rename_i D;cases h;exact .inl ⟨true,D,by simp⟩
   ·rename_i D;cases h;exact .inl ⟨false,D,by simp⟩
   ·rename_i v _ _ D
    obtain⟨h1,h⟩:=XX h
    cases h
    exact .inr ⟨by rw[D,V.isUnd_eq h1],rfl⟩
   cases h
  cases h
 cases h
def AL.want {ops:Array Oper}{o:Oper}{l:L_ Oper}{σ σ':St}{Q:Exit->St->Prop}(h:Ur ops o (look σ.fr)=some true)(hs:Ql P C o σ σ')(k:AL P C ops l σ' Q):AL P C ops (o::l) σ Q:=by
 rcases Ss h with⟨hg,_⟩|⟨j,t,d,hg,hj,⟨u,hu,D⟩|⟨_,D⟩⟩
 ·exact AL.cons hg hs k
 ·have:u=t:=by simpa using D.symm
  exact AL.consGT hg hj hu this hs k
 cases D
def AL.pass {ops:Array Oper}{o:Oper}{l:L_ Oper}{σ:St}{Q:Exit->St->Prop}{d:Nat}(h:Ur ops o (look σ.fr)=some false)(hd:o.dst=some d)(hn:B_ d C)(k:AL P C ops l (σ.put d (.lit undef)) Q):AL P C ops (o::l) σ Q:=by
 rcases Ss h with⟨_,D⟩|⟨j,t,e,hg,hj,⟨u,hu,D⟩|⟨hu,_⟩⟩
 ·cases D
 ·have:u=!t:=by cases u<;>cases t<;>first | rfl | cases D
  exact AL.consNT hg hj hu this hd hn k
 exact AL.consU hg hj hu hd hn k
def AL.pass0 {ops:Array Oper}{o:Oper}{l:L_ Oper}{σ:St}{Q:Exit->St->Prop}(h:Ur ops o (look σ.fr)=some false)(hd:o.dst=none)(k:AL P C ops l σ Q):AL P C ops (o::l) σ Q:=by
 rcases Ss h with⟨_,D⟩|⟨j,t,e,hg,hj,⟨u,hu,D⟩|⟨hu,_⟩⟩
 ·cases D
 ·have:u=!t:=by cases u<;>cases t<;>first | rfl | cases D
  exact AL.consNT0 hg hj hu this hd k
 exact AL.consU0 hg hj hu hd k
def RR.putDenil {d:Nat}{v:V}{ms:L_ (O_ Nat)}(h:RR C φ (σ.put d v) a w):RR C φ (σ.put d (v.denil ms)) a w:=by
 obtain⟨x,hx,hrep⟩:=h.frame d v (QH _ _ _)
 refine(h.say hx (hrep.denil (ms:=ms))).le λt u D=>?_
 by_cases e:d=t
 ·subst e
  have D:look ((d,v.denil ms)::σ.fr) d=some u:=D
  rw[QH]at D
  show look ((d,v.denil ms)::_) d=some u
  rw[QH];exact D
 have D:look ((d,v.denil ms)::σ.fr) t=some u:=D
 rw[QA _ _ e]at D
 show look ((d,v.denil ms)::(d,v)::σ.fr) t=some u
 rw[QA _ _ e,QA _ _ e];exact D
def Ql.denil {o:Oper}{σ σ':St}{d:Nat}{v:V}{ms:L_ (O_ Nat)}(h:Ql P C o σ (σ'.put d v)):Ql P C o σ (σ'.put d (v.denil ms)):=
 λa w hR next Q hn=>h a w hR next Q λD w' ⟨φ,hr⟩=>hn D w' ⟨φ,hr.putDenil⟩
def QdE {h:Wm}{sv:O_ (L_ (O_ Nat)×V)}{o:Oper}{σ σ':St}{φ φ':Prop}(ok:DH P T)(hN:JB P C n)(e:Yx P C T n h sv o σ φ=some (σ',φ'))(hφ:φ'):φ/\Ql P C o σ σ':=by
 have hn:=hN.n
 unfold Yx at e
 split at e
 ·rename_i d hd
  replace e:=XX e;obtain⟨e1,e⟩:=e
  rw[<-hn]at e1
  split at e
  ·rename_i v q D
   have key:∀q':Prop,Vo φ q/\q'->φ/\Ql P C o σ (σ.put d v):=λq' h=>by
    obtain⟨a,b⟩:=Vp h.1
    exact⟨a,QdD ok hd e1 hN.g (λ_ _ h=>h) (λ_ _ h=>h) D b (λh=>by cases h)⟩
   split at e
   ·cases e;exact key True ⟨hφ,trivial⟩
   cases e;obtain⟨a,b⟩:=hφ;subst b;obtain⟨a1,a2⟩:=key True ⟨a,trivial⟩;exact⟨a1,a2.denil⟩
  ·rename_i v ob q D
   split at e
   ·rename_i hl
    have key:∀q':Prop,Vo φ q/\q'->φ/\Ql P C o σ ((σ.set d ob).put d v):=λq' h=>by
     obtain⟨a,b⟩:=Vp h.1
     exact⟨a,QdD ok hd e1 hN.g (λ_ _ h=>h) (λ_ _ h=>h) D b (λ_=>hl)⟩
    split at e
    ·cases e;exact key True ⟨hφ,trivial⟩
    cases e;obtain⟨a,b⟩:=hφ;subst b;obtain⟨a1,a2⟩:=key True ⟨a,trivial⟩;exact⟨a1,a2.denil⟩
   cases e
  cases e
 rename_i hd
 split at e
 ·rename_i Tx x y ho
  split at e
  ·rename_i p hp
   split at e
   ·rename_i v hv
    unfold QoW at e
    split at e
    ·rename_i b i off v
     split at e
     ·rename_i cs hb
      split at e
      ·split at e
       ·rename_i k hk
        replace e:=XX e;obtain⟨e2,e⟩:=e
        cases e
        simp only[QQ]at e2
        obtain⟨⟨⟨a1,a2⟩,a3⟩,a4⟩:=e2
        exact⟨hφ,Ql.storeL ho hd hp hb hv (V.isV_or a1) (ok.sz hk) (YM a2) a3 a4 rfl⟩
       cases e
      cases e
     cases e
    cases e
   cases e
  cases e
 cases e
def QnU {o:Oper}{σ σ':St}{φ φ':Prop}{rs':L_ (L_ V)}{m d Tx Ty:Nat}{x y:Operand}{p v:V}(ok:DH P T)(hN:JB P C n)(ho:o.op=.call { callee:=.builtin .append,args:=#[x,y],argTypes:=#[Tx,Ty] })(hd:o.dst=some d)
  (hx:σ.opd x=some p) (hy:σ.opd y=some v) (e:Qqd T n σ φ rs' m d Tx Ty p v=some (σ',φ')) (hφ:φ'):φ/\Ql P C o σ σ':=by
 have hn:=hN.n
 unfold Qqd at e
 split at e
 ·rename_i b k y'
  split at e
  ·rename_i z rs hb
   split at e
   ·rename_i et z' by_ D
    split at e
    ·rename_i zs hz
     replace e:=XX e;obtain⟨e1,e⟩:=e
     simp only[QQ,Am]at e1
     obtain⟨⟨⟨⟨⟨⟨a1,a2⟩,a3⟩,a4⟩,a5⟩,a6⟩,a7⟩:=e1
     have a4:=YM a4;subst a4
     have a5:=YM a5
     have a6:z≠0:=λh=>by rw[h]at a6;cases a6
     rw[<-hn]at a2
     obtain⟨⟨e2,z2,by2⟩,hU⟩:∃q,Yk P Ty=some q:=by
      cases hl:look T.es Ty with
      | none=>rw[hl]at a1;cases a1
      | some q=>exact⟨q,ok.es hl⟩
     split at e
     ·rename_i z'' us
      replace e:=XX e;obtain⟨e3,e⟩:=e
      have:=YM e3;subst this
      cases e
      obtain⟨h,h1,h2,h3,h4⟩:=hφ
      exact⟨h,Ql.appS ho hd a2 hx hb a3 h1 (ok.es D) hU (ok.zv hz) a5 a6 a7 h2 hy h3 h4⟩
     ·rename_i b' k'
      split at e
      ·rename_i z'' us hb'
       replace e:=XX e;obtain⟨e3,e⟩:=e
       have:=YM e3;subst this
       cases e
       obtain⟨h,h1,h2,h3,h4,h5⟩:=hφ
       exact⟨h,Ql.appO ho hd a2 hx hb a3 h1 (ok.es D) hU (ok.zv hz) a5 a6 a7 h2 hy hb' h3 h4 h5⟩
      cases e
     ·cases e
      obtain⟨h,h1,h2⟩:=hφ
      exact⟨h,Ql.appN ho hd a2 hx hb a3 h1 (ok.es D) hU (ok.zv hz) a5 a6 a7 h2 hy⟩
     cases e
    cases e
   cases e
  cases e
 cases e
def Qmf {o:Oper}{σ σ':St}{φ φ':Prop}{Tx:TypeId}{x y:Operand}{p v:V}{r:L_ V}{D:L_ (L_ V)}(ok:DH P T)(ho:o.op=.store Tx x y)(hd:o.dst=none)(hx:σ.opd x=some p)(hy:σ.opd y=some v)
  (e:storeA T Tx σ φ r D p v=some (σ',φ')) (h:φ'):φ/\Ql P C o σ σ':=by
 unfold storeA at e
 split at e
 ·rename_i b i off v
  split at e
  ·rename_i z rs hb
   split at e
   ·rename_i k hk
    replace e:=XX e;obtain⟨e2,e⟩:=e
    cases e
    simp only[QQ]at e2
    obtain⟨⟨⟨⟨a1,a2⟩,a3⟩,a4⟩,a5⟩:=e2
    exact⟨h.1,Ql.storeA ho hd hx hb h.2.1 hy (V.isV_or a1) (ok.sz hk) (YM a2) a3 a4 a5 h.2.2⟩
   cases e
  cases e
 cases e
def R.say {σ:St}{t:Nat}{v:V}(h:∃u,look σ.fr t=some u/\u=v){a:Act}{w:World}(hR:R C σ a w):R C (σ.put t v) a w:=by
 obtain⟨u,hu,rfl⟩:=h
 obtain⟨φ,hr⟩:=hR
 obtain⟨x,hx,D⟩:=hr.frame t _ hu
 exact⟨φ,hr.say hx D⟩
def RR.sayOb (h:RR C φ σ a w){b:Nat}{ob ob':Ob}(hb:look σ.hp b=some ob)(hs:∀B,φ b=some B->JA φ (Xl C φ w) w B ob->JA φ (Xl C φ w) w B ob')(he:ob=ob'\/¬ob.Nil):RR C φ (σ.set b ob') a w:=by
 rcases he with rfl | hne
 ·refine⟨h.os,h.tape,h.output,h.size,h.kept,h.inj,λo B hB=>?_,h.lt,h.new,h.stay.set hb,h.tmps,h.defers,h.frame,λo ob'' D=>?_⟩
  ·by_cases e:o=b
   ·subst e;exact⟨_,σ.look_set_same _ _⟩
   rw[σ.look_set_other _ (Ne.symm e)];exact h.dom o B hB
  by_cases e:o=b
  ·subst e;rw[σ.look_set_same]at D;cases D;exact h.heap _ _ hb
  rw[σ.look_set_other _ (Ne.symm e)]at D;exact h.heap _ _ D
 exact h.say' hb hs hne
def R.sayO {σ:St}{b:Nat}{ob:Ob}(h:∃u,look σ.hp b=some u/\u=ob){a:Act}{w:World}(D:R C σ a w):R C (σ.set b ob) a w:=by
 obtain⟨u,hu,rfl⟩:=h
 obtain⟨φ,hr⟩:=D
 exact⟨φ,hr.sayOb hu (λ_ _ h=>h) (.inl rfl)⟩
def R.denil {σ:St}{t:Nat}{v:V}{ms:L_ (O_ Nat)}(h:look σ.fr t=some v){a:Act}{w:World}(hR:R C σ a w):R C (σ.put t (v.denil ms)) a w:=by
 obtain⟨φ,hr⟩:=hR
 obtain⟨x,hx,D⟩:=hr.frame t _ h
 exact⟨φ,hr.say hx D.denil⟩
def R.denilO {σ:St}{b:Nat}{cs:L_ V}{ms:L_ (O_ Nat)}(h:look σ.hp b=some (.var cs)){a:Act}{w:World}(hR:R C σ a w):R C (σ.set b (.var (DW ms cs))) a w:=by
 obtain⟨φ,hr⟩:=hR
 refine⟨φ,hr.sayOb h (λB hB D=>?_) (.inr λe=>e.elim)⟩
 obtain⟨xs,E,h1,h2,h0,h3⟩:=D
 refine⟨xs,E,h1,by rw[QbX];exact h2,h0,λj x v hx hv=>?_⟩
 obtain⟨m,v',hv',rfl⟩:=Vi _ _ j v hv
 exact(h3 j x v' hx hv').den1
section
variable {hp:H_}{g:Bool}{bad:L_ Nat}{m:Nat->Nat->Prop}{bk:Nat->O_ Nat}
def QdF (hm:∀a b,bk a=some b->m a b):∀(v:V) {u:V},trC bk v=some u->Vw hp g false bad m v u
 | .own a n,u,h=>by rw[trC]at h;split at h<;>first | (rename_i b D;cases h;exact .own _ _ _ (hm _ _ D)) | cases h
 | .loc a i d,u,h=>by rw[trC]at h;split at h<;>first | (rename_i b D;cases h;exact .loc _ _ _ _ (hm _ _ D)) | cases h
 | .map a,u,h=>by rw[trC]at h;split at h<;>first | (rename_i b D;cases h;exact .map _ _ (hm _ _ D)) | cases h
 | .ifc t x,u,h=>by
  rw[trC]at h
  split at h
  ·rename_i y hy;cases h;exact .ifc _ _ _ (QdF hm x hy)
  cases h
 | .b _,u,h | .i _ _,u,h | .s _,u,h | .sl _ _,u,h | .sln _ _ _,u,h | .e0,u,h | .ro _,u,h | .agg _,u,h | .tup _,u,h | .clo _ _ _,u,h | .lit _,u,h | .J,u,h=>by
  have h:=XX (show(bif V.datA _ then some _ else none)=some u from h)
  obtain⟨h1,h2⟩:=h
  cases h2
  exact .dat _ h1 (λe=>by cases e)
def Su (hm:∀a b,bk a=some b->m a b):∀{vs us:L_ V},trL bk vs=some us->vs.length=us.length/\∀(j:Nat) c u,vs[j]? = some c->us[j]? = some u->Vw hp g false bad m c u:=by
 intro vs
 induction vs with
 | nil=>intro us h;cases h;simp
 | cons v vs ih=>
  intro us h
  rw[trL]at h
  split at h
  ·rename_i u hu
   split at h
   ·rename_i us' hus
    cases h
    obtain⟨a,b⟩:=ih hus
    refine⟨by simp[a],λj c w D hw=>?_⟩
    cases j with
    | zero=>simp at D hw;subst D;subst hw;exact QdF hm _ hu
    | succ j=>simp at D hw;exact b j c w D hw
   cases h
  cases h
def OL (hm:∀a b,bk a=some b->m a b){v u:V}(h:trV bk v=some u):Vw hp g false bad m v u:=by
 unfold trV at h
 split at h
 ·rename_i cs
  cases hd:(V.agg cs).datA with
  | true=>rw[hd]at h;cases h;exact .dat _ hd (λe=>by cases e)
  | false=>
   rw[hd]at h;dsimp only[cond_false]at h
   split at h
   ·rename_i us D;cases h;obtain⟨a,b⟩:=Su hm D;exact .agg _ _ a b
   cases h
 ·rename_i cs
  cases hd:(V.tup cs).datA with
  | true=>rw[hd]at h;cases h;exact .dat _ hd (λe=>by cases e)
  | false=>
   rw[hd]at h;dsimp only[cond_false]at h
   split at h
   ·rename_i us D;cases h;obtain⟨a,b⟩:=Su hm D;exact .tup _ _ a b
   cases h
 ·split at h
  ·rename_i us D
   split at h
   ·rename_i ds hds;cases h;obtain⟨a,b⟩:=Su hm D;obtain⟨a',b'⟩:=Su hm hds;exact .clo _ _ _ _ _ a a' b b'
   cases h
  cases h
 exact QdF hm _ h
def Qic (hm:∀a b,bk a=some b->m a b):∀{vs us:L_ V},Qmc bk vs=some us->vs.length=us.length/\∀(j:Nat) c u,vs[j]? = some c->us[j]? = some u->Vw hp g false bad m c u:=by
 intro vs
 induction vs with
 | nil=>intro us h;cases h;simp
 | cons v vs ih=>
  intro us h
  rw[Qmc]at h
  split at h
  ·rename_i u hu
   split at h
   ·rename_i us' hus
    cases h
    obtain⟨a,b⟩:=ih hus
    refine⟨by simp[a],λj c w D hw=>?_⟩
    cases j with
    | zero=>simp at D hw;subst D;subst hw;exact OL hm hu
    | succ j=>simp at D hw;exact b j c w D hw
   cases h
  cases h
def QoY (hm:∀a b,bk a=some b->m a b){ob ob':Ob}(h:trO bk ob=some ob'):ObW hp g false bad m ob ob':=by
 unfold trO at h
 split at h
 ·split at h
  ·rename_i us D;cases h;obtain⟨a,b⟩:=Qic hm D;exact .var _ _ a b
  cases h
 ·split at h
  ·rename_i us D;cases h;obtain⟨a,b⟩:=Qic hm D;exact .lp _ _ _ _ _ a b
  cases h
 ·cases h;exact .arr _ _ (λe=>by cases e)
 ·cases h;exact .map _ (λe=>by cases e)
 ·cases h;exact .grp _ _ _ rfl
 ·cases h;exact .tbl _ _ _ rfl
 cases h
def MT (hm:∀a b,bk a=some b->m a b):∀{ms:L_ Mode} {vs us:L_ V},OZ bk ms vs=some us->Vws hp g false bad m vs us:=by
 intro ms
 induction ms with
 | nil=>intro vs us h;cases vs with
  | nil=>cases h;exact .nil
  | cons=>cases h
 | cons md ms ih=>
  intro vs us h
  cases vs with
  | nil=>cases h
  | cons v vs=>
   rw[OZ]at h
   split at h
   ·rename_i u D
    split at h
    ·rename_i us' hus
     cases h
     refine .cons ?_ (ih hus)
     unfold QrM at D
     split at D
     ·cases D;exact .nil _
     ·exact OL hm D
     ·rename_i n cs
      split at D
      ·rename_i us2 hus2
       split at D
       ·rename_i hj
        cases D
        obtain⟨a,b⟩:=Su hm hus2
        refine .agg _ _ (by rw[<-a];simp) λj c w hc hw=>?_
        by_cases e:j=n
        ·subst e;rw[hj]at hw;cases hw;exact .forget _
        exact b j c w (by rw[List.getElem?_set,if_neg (Ne.symm e)];exact hc) hw
       cases D
      cases D
     cases D
    cases h
   cases h
def Ek (hm:∀a b,bk a=some b->m a b){src:H_}:∀{M:L_ (Nat×Nat)} {l:H_},HF bk (look src) M=some l->Mo hp g false bad m src M l:=by
 intro M
 induction M with
 | nil=>intro l h;cases h;exact .nil
 | cons p M ih=>
  intro l h
  obtain⟨d,s⟩:=p
  rw[HF]at h
  split at h
  ·rename_i ob hob
   split at h
   ·rename_i ob' D
    split at h
    ·rename_i l' hl;cases h;exact .cons hob (QoY hm D) (ih hl)
    cases h
   cases h
  cases h
def Hz : ∀{M:L_ (Nat×Nat)} {a b:Nat},Ei M a=some b->(b,a)∈M:=by
 intro M
 induction M with
 | nil=>intro a b h;cases h
 | cons p M ih=>
  intro a b h
  obtain⟨b',a'⟩:=p
  rw[Ei]at h
  cases D:Nat.beq a' a with
  | true=>rw[D]at h;cases h;rw[YM D];exact XY
  | false=>rw[D]at h;exact Yo _ (ih h)
end
def QnV {o:Oper}{σ:St}{φ φ':Prop}{c:Call}{en:Ent}{f:Nat}{vs:L_ V}(ok:DH P T)(ho:o.op=.call c)(e:Qqc P T σ φ c en=some (f,vs,φ'))(hφ:φ'):φ/\Jk P C o σ f vs:=by
 obtain⟨ce,ags,ts⟩:=c
 unfold Qqc at e
 split at e
 ·split at e
  ·rename_i f' D
   dsimp only at D;subst D
   replace e:=XX e;obtain⟨e1,e⟩:=e
   split at e
   ·rename_i vs' hv;cases e;exact⟨hφ,Jk.fn ho (ok.en e1) (UU (λ_ _ h=>h) hv)⟩
   cases e
  cases e
 ·split at e
  ·rename_i x D
   dsimp only at D;subst D
   split at e
   ·rename_i f' fs cs hx
    replace e:=XX e;obtain⟨e1,e⟩:=e
    split at e
    ·rename_i vs' hv;cases e;exact⟨hφ,Jk.clo ho hx (ok.en e1) (UU (λ_ _ h=>h) hv)⟩
    cases e
   cases e
  cases e
 ·split at e
  ·rename_i x name D
   dsimp only at D;subst D
   split at e
   ·rename_i t u hx
    replace e:=XX e;obtain⟨e1,e⟩:=e
    split at e
    ·rename_i vs' hv;cases e;exact⟨hφ.1,Jk.meth (r:=u) ho hx hφ.2 (ok.en e1) (UU (λ_ _ h=>h) hv)⟩
    cases e
   cases e
  cases e
 split at e
 ·rename_i x name D
  dsimp only at D;subst D
  split at e
  ·rename_i t b off hx
   split at e
   ·rename_i cs hb
    split at e
    ·rename_i r hr0
     replace e:=XX e;obtain⟨e1,e⟩:=e
     split at e
     ·rename_i vs' hv;cases e;exact⟨hφ.1,Jk.methV ho hx hφ.2.1 hφ.2.2.1 hφ.2.2.2 hb hr0 (ok.en e1) (UU (λ_ _ h=>h) hv)⟩
     cases e
    cases e
   cases e
  cases e
 cases e
def QoZ {o:Oper}{σ σ':St}{φ φ':Prop}{d f:Nat}{vs:L_ V}{M N:L_ (Nat×Nat)}{dead:L_ Nat}{ms:L_ Mode}{outs:H_}{r:V}(hE:Jk P C o σ f vs)(hd:o.dst=some d)(hn:B_ d C)(hpg:C.pg P)
  (e:cmV P σ φ d f vs M N dead ms outs r=some (σ',φ')) (hφ:φ'):φ/\Ql P C o σ σ':=by
 unfold cmV at e
 replace e:=XX e;obtain⟨e1,e⟩:=e
 simp only[QQ]at e1
 obtain⟨⟨h1,h2⟩,h3⟩:=e1
 have h2:=DX.1 h2
 have h3:=DX.1 h3
 have D:IR M=true/\IR N=true:=by
  simp only[GI,QQ]at h1
  exact⟨h1.1.1.1,h1.1.1.2⟩
 have mM:∀a b,Ei M a=some b->look M b=some a:=λa b h=>Wa D.1 (Hz h) h2
 have mN:∀a b,Ei N a=some b->look N b=some a:=λa b h=>Wa D.2 (Hz h) h3
 split at e
 ·rename_i us hus
  split at e
  ·rename_i hsC hC
   split at e
   ·rename_i hsN hN
    split at e
    ·rename_i r' hr
     cases e
     exact⟨hφ.1,Ql.callM (g:=false) hE hd hn hpg h1 h2 (MT mM hus) (Ek mM hC) hφ.2 (Ek mN hN) (OL mN hr)⟩
    cases e
   cases e
  cases e
 cases e
def Qqg {l:S_}:∀{D:L_ Nat} {r:S_},Ej l D=some r->Lz l r:=by
 intro D
 induction D with
 | nil=>intro r h;cases h;trivial
 | cons t D ih=>
  intro r h
  rw[Ej]at h
  split at h
  ·rename_i v hv
   split at h
   ·rename_i r' hr;cases h;exact⟨hv,ih hr⟩
   cases h
  cases h
def Qqh {l:H_}:∀{D:L_ Nat} {r:H_},Ej l D=some r->Ao l r:=by
 intro D
 induction D with
 | nil=>intro r h;cases h;trivial
 | cons t D ih=>
  intro r h
  rw[Ej]at h
  split at h
  ·rename_i v hv
   split at h
   ·rename_i r' hr;cases h;exact⟨hv,ih hr⟩
   cases h
  cases h
def RR.thawN {β:Nat}(hβ:β<=C.w0.heap.size)(hr:RR C φ σ a w){b n z:Nat}{rs us:L_ (L_ V)}(hp:Nat.ble 618 b=false)(hb:look σ.hp b=some (.arr z rs)){x:Value}(hrep:QT φ (Xl C φ w) w x (.own b n))(hle:n<=rs.length)(hu:rs.take n=us):
  XB (Xl C (UG φ b) w) w x (.sln β z us):=by
 subst hu
 rcases hrep.own_inv with⟨rfl,rfl⟩|⟨B,hB,D,rfl⟩
 ·simp only[List.take_zero];exact .sln0 _ _ _ _
 obtain⟨rfl,hrl,hok,cs,E,h1,h2,h3⟩:=hr.block hB hb
 have hnew:C.w0.heap.size<=B.b:=by
  have hb':b<618:=by
   rcases WO b 618 with h | h
   ·exact h
   rw[ZR h]at hp;cases hp
  exact hr.new b B _ hB B.self hb'
 have hIb:Xl C (UG φ b) w B.b:=by
  refine⟨(hr.lt b B _ hB B.self).1,λhlt=>by omega,λo B' hB' e=>?_⟩
  obtain⟨h4,h5⟩:=KD hB'
  exact h4 (hr.inj o b B' B _ h5 hB e B.self)
 have hle2:n*B.z<=B.cap*B.z:=JP _ D
 refine .sln β B.b B.off n B.cap B.z _ cs E (Yb hβ hnew) hIb (by simp;omega) D (λr hr'=>hok r (Bf hr')) h1 (by omega) (λi r hi j v hj=>?_)
 have hi':rs[i]? = some r:=by
  rw[Kd]at hi
  by_cases hin:i<n
  ·rwa[if_pos hin]at hi
  rw[if_neg hin]at hi;simp at hi
 obtain⟨y,hy,hd⟩:=h3 i r hi' j v hj
 have:cs.getD (B.off+(i*B.z+j)) undef=y:=by simp[QaO,hy]
 rw[this]
 exact hd.mono λk hk=>⟨hk.of_del,rfl⟩
def RR.thaw (hr:RR C φ σ a w){b n z:Nat}{rs us:L_ (L_ V)}(hp:Nat.ble 618 b=false)(hb:look σ.hp b=some (.arr z rs)){x:Value}(h:QT φ (Xl C φ w) w x (.own b n))(D:n<=rs.length)(hu:rs.take n=us):
  QT (UG φ b) (Xl C (UG φ b) w) w x (.sl z us):=.dat (hr.thawN (He _) hp hb h D hu).lo1
def Frz (C:Xx)(s:V)(z:Nat)(us:L_ (L_ V)):Prop:=s=.sl z us\/∃β,s=.sln β z us/\β<=C.w0.heap.size
def RR.thawU {s:V}{z:Nat}{us:L_ (L_ V)}(hs:Frz C s z us)(hr:RR C φ σ a w){b n:Nat}{rs:L_ (L_ V)}(hp:Nat.ble 618 b=false)(hb:look σ.hp b=some (.arr z rs)){x:Value}(h:QT φ (Xl C φ w) w x (.own b n))(D:n<=rs.length)(hu:rs.take n=us):
  QT (UG φ b) (Xl C (UG φ b) w) w x s:=by
 rcases hs with rfl | ⟨β,rfl,hβ⟩
 ·exact hr.thaw hp hb h D hu
 exact .dat (hr.thawN hβ hp hb h D hu)
section
variable {b z:Nat}{rs us:L_ (L_ V)}{σ0:St}{s:V}
def RR.frzC (hs:Frz C s z us)(hr:RR C φ σ a w)(hp:Nat.ble 618 b=false)(hb:look σ.hp b=some (.arr z rs)){x:Value}{v:V}(h:QT φ (Xl C φ w) w x v)(hq:Qmd b rs us v)(D:v.freeC b=true\/∃k,v=.own b k):
  QT (UG φ b) (Xl C (UG φ b) w) w x (v.frzC b s):=by
 rcases D with D | ⟨k,rfl⟩
 ·have:v.frzC b s=v:=by
   unfold V.frzC
   split
   ·rename_i o k
    have:Nat.beq o b=false:=by simpa[V.freeC,V.freeN] using D
    rw[this];rfl
   rfl
  rw[this]
  exact QT.freeC (λo B ho hB=>by rw[Gu ho];exact hB) (λk hk=>⟨hk.of_del,rfl⟩) h D
 have e:Nat.beq b b=true:=Nat.beq_refl b
 simp only[Qmd,e,Qz]at hq
 simp only[V.frzC,e,Qz]
 exact RR.thawU hs hr hp hb h hq.1 hq.2
def Qk0 {D:L_ V}(h:Qb5 b rs us D):∀(j:Nat) v,D[j]? = some v->Qmd b rs us v:=by
 induction D with
 | nil=>intro j v hj;simp at hj
 | cons c D ih=>
  intro j v hj
  have h2:Qb5 b rs us D:=by
   unfold Qb5 at h
   split at h
   ·rename_i e;cases e
   ·rename_i e;cases e;exact h.2
   rename_i e;cases e;exact h
  cases j with
  | zero=>
   simp at hj;subst hj
   cases c with
   | own o k=>exact h.1
   | _=>trivial
  | succ j=>exact ih h2 j v (by simpa using hj)
end
section
variable {b z:Nat}{rs us:L_ (L_ V)}{σ0:St}{s:V}
def Qmg {v:V}(h:(v.freeC b||v.isOwn b)=true):v.freeC b=true\/∃k,v=.own b k:=by
 rw[KE]at h
 rcases h with h | h
 ·exact .inl h
 unfold V.isOwn at h
 split at h
 ·rename_i o k;rw[YM h];exact .inr ⟨k,rfl⟩
 cases h
def RR.frzV (hz:Frz C s z us)(hr:RR C φ σ0 a w)(hp:Nat.ble 618 b=false)(hb:look σ0.hp b=some (.arr z rs)){x:Value}{v:V}(h:QT φ (Xl C φ w) w x v)(hq:Qqe b rs us v)(hf:v.frzB b=true):
  QT (UG φ b) (Xl C (UG φ b) w) w x (v.frz b s):=by
 unfold V.frz
 unfold Qqe at hq
 unfold V.frzB at hf
 split at hq
 ·rename_i cs
  obtain⟨xs,rfl,hs,hc⟩:=h.agg_inv
  refine .agg xs _ (by simpa using hs) λj y u hy hu=>?_
  rw[Yf]at hu
  obtain⟨c,D,rfl⟩:=XW.1 hu
  dsimp only at hf
  rw[XN]at hf
  exact RR.frzC hz hr hp hb (hc j y c hy D) (Qk0 hq j c D) (Qmg (hf c (XH D)))
 rename_i hne
 have hf':(v.freeC b||v.isOwn b)=true:=by
  split at hf
  ·exact absurd rfl (hne _)
  exact hf
 exact RR.frzC hz hr hp hb h hq (Qmg hf')
def QnW (hs:Frz C s z us)(hr:RR C φ σ0 a w)(hp:Nat.ble 618 b=false)(hb:look σ0.hp b=some (.arr z rs)):∀{ts:L_ Nat} {σ σ':St} {ψ ψ':Prop},Qgk b s rs us σ0 ts σ ψ=some (σ',ψ')->ψ'->ψ/\(RR C (UG φ b) σ a w->RR C (UG φ b) σ' a w):=by
 intro ts
 induction ts with
 | nil=>intro σ σ' ψ ψ' h h';cases h;exact⟨h',id⟩
 | cons t ts ih=>
  intro σ σ' ψ ψ' h h'
  rw[Qgk]at h
  split at h
  ·rename_i v hv
   replace h:=XX h;obtain⟨h0,h⟩:=h
   obtain⟨⟨h1,h2⟩,h3⟩:=ih h h'
   refine⟨h1,λk=>h3 ?_⟩
   obtain⟨x,hx,D⟩:=hr.frame t v hv
   exact k.say hx (RR.frzV hs hr hp hb D h2 h0)
  cases h
def QnX (hs:Frz C s z us)(hr:RR C φ σ0 a w)(hp:Nat.ble 618 b=false)(hb:look σ0.hp b=some (.arr z rs)):∀{os:L_ Nat} {σ σ':St} {ψ ψ':Prop},Qme b s rs us σ0 os σ ψ=some (σ',ψ')->ψ'->ψ/\(RR C (UG φ b) σ a w->(∀p cs ob,look σ0.hp p=some (.var cs)->look σ.hp p=some ob->¬ob.Nil)->RR C (UG φ b) σ' a w):=by
 intro os
 induction os with
 | nil=>intro σ σ' ψ ψ' h h';cases h;exact⟨h',λk _=>k⟩
 | cons p ps ih=>
  intro σ σ' ψ ψ' h h'
  rw[Qme]at h
  split at h
  ·rename_i cs hcs
   replace h:=XX h;obtain⟨h0,h⟩:=h
   simp only[QQ,Am]at h0
   obtain⟨⟨g1,g2⟩,g3⟩:=h0
   obtain⟨⟨h1,h2⟩,h3⟩:=ih h h'
   refine⟨h1,λk hv=>h3 ?_ ?_⟩
   ·have hne:p≠b:=λe=>by subst e;rw[Nat.beq_refl]at g1;cases g1
    obtain⟨ob,hob⟩:=Option.isSome_iff_exists.1 g3
    refine k.sayOb hob (λB hB _=>?_) (.inr (hv p cs ob hcs hob))
    obtain⟨_,hB'⟩:=KD hB
    rcases hr.heap p _ hcs with⟨B',D,hrep⟩|⟨hn,_⟩
    ·rw[hB']at D;cases D
     obtain⟨xs,E,e1,e2,e0,e3⟩:=hrep
     refine⟨xs,E,e1,by simpa using e2,e0,λj x v hx hv'=>?_⟩
     rw[Yf]at hv'
     obtain⟨c,hcj,rfl⟩:=XW.1 hv'
     rw[XN]at g2
     exact RR.frzC hs hr hp hb (e3 j x c hx hcj) (Qk0 h2 j c hcj) (Qmg (g2 c (XH hcj)))
    rw[hn]at hB';cases hB'
   intro p' cs' ob' e1 e2 e3
   by_cases e:p=p'
   ·subst e;rw[St.look_set_same]at e2;cases e2;exact e3.elim
   rw[St.look_set_other _ _ e]at e2;exact hv p' cs' ob' e1 e2 e3
  cases h
end
def R.frz {b z:Nat}{rs us:L_ (L_ V)}{s:V}(hs:Frz C s z us){σ σ1 σ2:St}{D os:L_ Nat}{φ1 φ2:Prop}(hp:Nat.ble 618 b=false)(hb:look σ.hp b=some (.arr z rs))(h1:Qgk b s rs us σ D (σ.kill b) True=some (σ1,φ1))(h2:Qme b s rs us σ os σ1 φ1=some (σ2,φ2))(hφ:φ2)
  {a:Act} {w:World} (hR:R C σ a w):R C σ2 a w:=by
 obtain⟨φ,hr⟩:=hR
 obtain⟨e1,e2⟩:=QnX hs hr hp hb h2 hφ
 obtain⟨_,e3⟩:=QnW hs hr hp hb h1 e1
 refine⟨_,e2 (e3 (hr.kill b)) λp cs ob g1 g2 g3=>?_⟩
 have key:∀{D:L_ Nat} {σ' σ'':St} {ψ ψ':Prop},Qgk b s rs us σ D σ' ψ=some (σ'',ψ')->σ''.hp=σ'.hp:=by
  intro D
  induction D with
  | nil=>intro σ' σ'' ψ ψ' h;cases h;rfl
  | cons t D ih=>
   intro σ' σ'' ψ ψ' h
   rw[Qgk]at h
   split at h
   ·replace h:=XX h;obtain⟨_,h⟩:=h
    rw[ih h];rfl
   cases h
 rw[key h1]at g2
 obtain⟨_,ob',h5,h6⟩:=JS _ _ _ g2
 rw[g1]at h5;cases h5
 subst h6;exact g3.elim
def R.adoptO {σ:St}{p i b z:Nat}{cs:L_ V}(D:Nat.beq p b=false)(hp:look σ.hp p=some (.var cs))(hi:cs[i]? = some (.lit (.slice none 0 0)))(hlt:b<620)(hb:look σ.hp b=none){a:Act}{w:World}(hR:R C σ a w):
  R C ((σ.set b (.arr z [])).set p (.var (cs.set i (.own b 0)))) a w:=by
 obtain⟨φ,hr⟩:=hR
 have hne:b≠p:=λe=>by subst e;rw[Nat.beq_refl]at D;cases D
 have h1:=hr.setNil (z:=z) hlt hb
 have hp':look (σ.set b (.arr z [])).hp p=some (.var cs):=by rw[St.look_set_other _ _ hne];exact hp
 refine⟨φ,h1.sayOb hp' (λB hB hrep=>?_) (.inr λe=>e.elim)⟩
 obtain⟨xs,E,e1,e2,e0,e3⟩:=hrep
 refine⟨xs,E,e1,by simpa using e2,e0,λj x v hx h=>?_⟩
 rw[List.getElem?_set]at h
 split at h
 ·rename_i hij;subst hij
  split at h
  ·cases h
   have:=e3 i x _ hx hi
   rw[this.lit_inv];exact .own0 b
  cases h
 exact e3 j x v hx h
def QnY {d:Bi}{pt:Pt}{ks:L_ Fr}{σ:St}{φ:Prop}{c:Cfg}(ok:DH P T)(hN:JB P C n)(e:Qqf P C T n d pt ks σ φ=some c):QnT P C Q pt ks σ φ c:=by
 have hn:=hN.n
 unfold Qqf at e
 split at e
 ·split at e
  ·rename_i hw
   split at e
   ·rename_i hs;cases e;exact λh=>let ⟨a,b⟩:=QdE ok hN hs h;⟨a,λk=>AL.want hw b k⟩
   cases e
  cases e
 ·split at e
  ·rename_i hw
   split at e
   ·rename_i hs;cases e;exact λh=>let ⟨a,b⟩:=QdE ok hN hs h;⟨a,λk=>AL.want hw b k⟩
   cases e
  cases e
 ·split at e
  ·rename_i hw
   split at e
   ·rename_i hd
    split at e
    ·rename_i ho
     split at e
     ·rename_i hp
      split at e
      ·rename_i hv
       split at e
       ·rename_i hs;cases e;exact λh=>let ⟨a,b⟩:=Qmf ok ho hd hp hv hs h;⟨a,λk=>AL.want hw b k⟩
       cases e
      cases e
     cases e
    cases e
   cases e
  cases e
 ·split at e
  ·rename_i hw
   split at e
   ·rename_i hd
    split at e
    ·rename_i cl ho
     obtain⟨ce,ags,ts⟩:=cl
     split at e
     ·rename_i hce
      dsimp only at hce e;subst hce
      split at e
      ·rename_i x y hxy
       split at e
       ·rename_i Tx Ty hT
        split at e
        ·rename_i p hp
         split at e
         ·rename_i v hv
          split at e
          ·rename_i hs
           have ea:ags=#[x,y]:=by rw[<-ZM (xs:=ags),hxy]
           have et:ts=#[Tx,Ty]:=by rw[<-ZM (xs:=ts),hT]
           subst ea;subst et
           cases e;exact λh=>let ⟨a,b⟩:=QnU ok hN ho hd hp hv hs h;⟨a,λk=>AL.want hw b k⟩
          cases e
         cases e
        cases e
       cases e
      cases e
     cases e
    cases e
   cases e
  cases e
 ·split at e
  ·rename_i hw
   cases e;exact λh=>⟨h.1,λk=>AL.want hw h.2 k⟩
  cases e
 ·split at e
  ·rename_i hw
   split at e
   ·rename_i d hd
    replace e:=XX e;obtain⟨e1,e⟩:=e
    rw[<-hn]at e1
    split at e
    ·rename_i cl ho
     split at e
     ·rename_i f vs φ1 he
      split at e
      ·rename_i hs
       cases e
       refine λh=>?_
       have h0:φ1:=by
        have hs':=hs
        unfold cmV at hs'
        replace hs':=(XX hs').2
        repeat (split at hs'<;>first | (cases hs';exact h.1) | skip)
        all_goals cases hs'
       obtain⟨a,b⟩:=QnV (C:=C) ok ho he h0
       obtain⟨_,b'⟩:=QoZ b hd e1 hN.g hs h
       exact⟨a,λk=>AL.want hw b' k⟩
      cases e
     cases e
    cases e
   cases e
  cases e
 ·split at e
  ·rename_i hc
   split at e
   ·cases e;exact λh=>⟨h.1,λk=>YB.condT hc h.2 k⟩
   cases e;exact λh=>⟨h.1,λk=>YB.condF hc h.2 k⟩
  cases e
 ·split at e
  ·rename_i u hu;cases e;exact λh=>⟨h.1,AK.weaken λa w=>R.say ⟨u,hu,h.2⟩⟩
  cases e
 ·split at e
  ·rename_i u hu;cases e;exact λh=>⟨h.1,AK.weaken λa w=>R.sayO ⟨u,hu,h.2⟩⟩
  cases e
 ·split at e
  ·rename_i ht
   split at e
   ·rename_i hb
    cases hbl:Nat.ble 620 _ with
    | true=>rw[hbl]at e;cases e
    | false=>rw[hbl]at e;cases e;exact λh=>⟨h,AK.weaken λa w D=>D.adopt (AN (by rw[hbl];rfl)) ht hb⟩
   cases e
  cases e
 ·split at e
  ·rename_i v hv;cases e;exact λh=>⟨h,AK.weaken λa w D=>D.denil hv⟩
  cases e
 ·split at e
  ·rename_i v hv;cases e;exact λh=>⟨h,AK.weaken λa w D=>D.denilO hv⟩
  cases e
 ·replace e:=XX e;obtain⟨e1,e⟩:=e
  simp only[QQ,Am,Option.isNone_iff_eq_none]at e1
  cases e;exact λh=>⟨h,AK.weaken λa w D=>D.ren _ _ e1.1.1 e1.1.2 e1.2⟩
 ·cases e;exact λh=>⟨h,AK.weaken λa w D=>D.kill _⟩
 ·split at e
  ·rename_i z rs hb
   replace e:=XX e;obtain⟨e1,e⟩:=e
   rw[Am]at e1
   split at e
   ·rename_i σ1 φ1 h1
    split at e
    ·rename_i σ2 φ2 h2
     cases e;exact λh=>⟨h.1,AK.weaken λa w D=>R.frz (.inl rfl) e1 hb h1 h2 h.2 D⟩
    cases e
   cases e
  cases e
 ·split at e
  ·rename_i cs hcs
   split at e
   ·rename_i hi
    split at e
    ·rename_i hb
     cases hpb:Nat.beq _ _ with
     | true=>rw[hpb]at e;cases e
     | false=>
      rw[hpb]at e
      cases hbl:Nat.ble 620 _ with
      | true=>rw[hbl]at e;cases e
      | false=>rw[hbl]at e;cases e;exact λh=>⟨h,AK.weaken λa w D=>R.adoptO hpb hcs hi (AN (by rw[hbl];rfl)) hb D⟩
    cases e
   cases e
  cases e
 ·split at e
  ·rename_i hf
   split at e
   ·rename_i hp
    replace e:=XX e;obtain⟨e1,e⟩:=e
    cases e;exact λh=>⟨h,AK.weaken λa w D=>D.to (Qqg hf) (Qqh hp) e1⟩
   cases e
  cases e
 cases e
def Qm7 (ok:DH P T)(hN:JB P C n):∀(k:Nat) {pt:Pt} {ks:L_ Fr} {σ:St} {φ:Prop} {c:Cfg},plain P C T n k pt ks σ φ=some c->QnT P C Q pt ks σ φ c:=by
 have hn:=hN.n
 intro k
 induction k with
 | zero=>intro pt ks σ φ c e;cases e;exact λD=>⟨D,id⟩
 | succ k ih=>
  intro pt ks σ φ c e
  unfold plain at e
  split at e
  ·rename_i h;cases h
  ·rename_i k' ops o l _ _ _ h
   cases h
   split at e
   ·rename_i hw
    split at e
    ·rename_i hs
     exact λD=>let ⟨a,b⟩:=ih e D;let ⟨a',b'⟩:=QdE ok hN hs a;⟨a',λk=>AL.want hw b' (b k)⟩
    cases e
   ·rename_i hw
    split at e
    ·rename_i d hd
     replace e:=XX e;obtain⟨e1,e⟩:=e
     rw[<-hn]at e1
     exact λD=>let ⟨a,b⟩:=ih e D;⟨a,λk=>AL.pass hw hd e1 (b k)⟩
    rename_i hd
    exact λD=>let ⟨a,b⟩:=ih e D;⟨a,λk=>AL.pass0 hw hd (b k)⟩
   cases e
  rename_i h _
  cases h
  split at e
  ·rename_i hc
   exact λD=>let ⟨a,b⟩:=ih e D;⟨a,λk=>QoX hc (b k)⟩
  cases e
def Qqi (ok:DH P T)(hN:JB P C n):∀(ds:L_ Bi) {pt:Pt} {ks:L_ Fr} {σ:St} {φ:Prop} {c:Cfg},go P C T n ds pt ks σ φ=some c->QnT P C Q pt ks σ φ c:=by
 have hn:=hN.n
 intro ds
 induction ds with
 | nil=>intro pt ks σ φ c e;cases e;exact λD=>⟨D,id⟩
 | cons d ds ih=>
  intro pt ks σ φ c e
  unfold go at e
  split at e
  ·rename_i h;cases h
  ·rename_i h
   cases h
   split at e
   ·rename_i hp
    exact λD=>let ⟨a,b⟩:=ih e D;let ⟨a',b'⟩:=Qm7 ok hN _ hp a;⟨a',λk=>b' (b k)⟩
   cases e
  rename_i h
  cases h
  split at e
  ·rename_i hp
   exact λD=>let ⟨a,b⟩:=ih e D;let ⟨a',b'⟩:=QnY ok hN hp a;⟨a',λk=>b' (b k)⟩
  cases e
def AK.go (ok:DH P T)(hN:JB P C n)(ds:L_ Bi){pt D:Pt}{ks h:L_ Fr}{σ σ':St}{φ:Prop}(e:Vm.go P C T n ds pt ks σ True=some ⟨D,h,σ',φ⟩)(hφ:φ)(k:AK P C Q D h σ'):AK P C Q pt ks σ:=
 (Qqi ok hN ds e hφ).2 k
end
def QF {α:Type}{l:L_ α}{f:α->L_ V}{j:Int}{x:α}(h:idx l j=some x):0<=j/\(l.map f)[j.toNat]? = some (f x):=⟨(Yl h).1,XP (Yl h).2⟩
def Yi {α:Type}{l:L_ α}{j:Int}{x:α}{n:Nat}(h:idx l j=some x)(D:l.length=n):0<=j/\j<(n:Int):=by subst D;exact⟨(Yl h).1,Qsv h⟩
def Qbi {a b:Bool}(h:(a&&b)=true):a=true:=(QQ _ _▸h).1
def Pa {a b:Bool}(h:(a&&b)=true):b=true:=(QQ _ _▸h).2
def Vq {a b c:Bool}(h:(a&&b&&c)=true):a=true:=Qbi (Qbi h)
def Vr {a b c:Bool}(h:(a&&b&&c)=true):b=true:=Pa (Qbi h)
def Qbj {a b c:Bool}(h:(a&&b&&c)=true):c=true:=Pa h
def EE.none_ {σ:St}{n m:Nat}(h:n=m):EE σ n .none m:=h▸EE.no
def QrN {α:Type}{l:L_ α}{h d:Nat}(D:h<=l.length):V.own d h=V.own d (l.take h).length:=by rw[WZ,MP D]
def XU {α β:Type}{us:L_ α}{y:L_ β}{n:Nat}(h:decide (n+y.length<=4294967296)=true)(e:us.length=y.length):decide (n+us.length<=4294967296)=true:=by rw[e];exact h
def Yc {α β:Type}{us:L_ α}{l y:L_ β}(e:us.length=y.length):l.length+us.length=(l++y).length:=by rw[e];simp
def Ye {rs:L_ (L_ V)}{n:Nat}(h:rs.length=n):n<=rs.length/\rs.take n=rs:=by subst h;exact⟨YY _,HY⟩
def Ue (a b:Int):Bool:=decide (a<b)
def OM (a b:ByteArray):Bool:=decide (a.data.toList.map UInt8.toNat<b.data.toList.map UInt8.toNat)
section
variable {P:Program}{C:Xx}{T:EF}{Q:Exit->St->Prop}{n:Nat}{ops:Array Oper}{base:St}
def JK.denil {o:Oper}{σ:St}{d:Nat}{v:V}{ob:O_ Ob}{ms:L_ (O_ Nat)}(h:JK P C ops o σ (σ.addF ⟨d,v,ob⟩)):JK P C ops o σ (σ.addF ⟨d,v.denil ms,ob⟩):=by
 intro a w hR K Q hK
 refine h a w hR K Q λa' w' ⟨φ,D⟩=>hK a' w' ⟨φ,?_⟩
 cases ob with
 | none=>exact RR.putDenil (σ:=σ) D
 | some ob=>exact RR.putDenil (σ:=σ.set d ob) D
def QU.walk {f:FuncId}{fn:Func}{c:Code}{args:L_ V}{hs:H_}{D:V->H_->Prop}(n:Nat)(hf:P.funcs[f]? = some fn)(hb:fn.body=some c)(hn:fn.ntmps=n)
  (hle:(Nat.ble args.length n&&Nat.ble n 620)=true) (h:∀C:Xx,JB P C n->AK P C (QaR P fn.results.toList D) (.c c) [] ⟨NM 0 args,hs⟩):QU P f args hs D:=by
 rw[QQ]at hle
 exact QU.enter hf hb hn hle.1 hle.2 λC h1 _=>h C h1
def QU.walkR {f:FuncId}{fn:Func}{c:Code}{args:L_ V}{hs:H_}{D:V->H_->Prop}(n:Nat)(hf:P.funcs[f]? = some fn)(hb:fn.body=some c)(hn:fn.ntmps=n)
  (hle:(Nat.ble args.length n&&Nat.ble n 620)=true) (h:∀C:Xx,JB P C n->C.rnd=none->AK P C (QaR P fn.results.toList D) (.c c) [] ⟨NM 0 args,hs⟩):QU P f args hs D:=by
 rw[QQ]at hle
 exact QU.enter hf hb hn hle.1 hle.2 h
def gives {r:V}{outs D:H_}(h:Ao D outs):Gives r outs r D:=⟨rfl,λ_ _ e=>h.look _ _ e⟩
end
def Rr {α:Type}{f:α->L_ V}{l:L_ α}{n:Nat}(h:n=l.length):n<=(l.map f).length/\(l.map f).take n=l.map f:=by
 subst h;exact⟨by simp,JR (by simp)⟩
section
variable {τ ρ π:Type}
def Dg (body:τ->π->O_ (τ⊕ρ)):τ->L_ π->O_ (τ⊕ρ)
 | s,[]=>some (.inl s)
 | s,p::l=>(body s p).bind λo=>Sum.elim (λh=>Dg body h l) (λr=>some (.inr r)) o
open Classical in
noncomputable def Hj (body:τ->π->O_ (τ⊕ρ))(s:τ):L_ π->O_ (τ⊕ρ)
 | []=>some (.inl s)
 | [p]=>Dg body s [p]
 | l=>if ∀h:L_ π,h.Perm l->Dg body s h=Dg body s l then Dg body s l else none
def LA {body:τ->π->O_ (τ⊕ρ)}{s:τ}{l:L_ π}{o:τ⊕ρ}:Hj body s l=some o↔(∀D:L_ π,D.Perm l->Dg body s D=Dg body s l)/\Dg body s l=some o:=by
 unfold Hj
 split
 ·exact⟨λh=>⟨λD hl=>by rw[hl.eq_nil],h⟩,λh=>h.2⟩
 ·exact⟨λh=>⟨λD hl=>by rw[List.perm_singleton.1 hl],h⟩,λh=>h.2⟩
 split
 ·rename_i h;exact Iff.intro (λe=>⟨h,e⟩) (λe=>e.2)
 rename_i h;exact Iff.intro (λe=>(by cases e)) (λe=>absurd e.1 h)
def QaW {body:τ->π->O_ (τ⊕ρ)}:∀{l m:L_ π} {s:τ},Dg body s (l++m)=(Dg body s l).bind λo=>Sum.elim (λh=>Dg body h m) (λr=>some (.inr r)) o:=by
 intro l
 induction l with
 | nil=>intro m s;rfl
 | cons p l D=>
  intro m s
  simp only[QbP,Dg]
  cases body s p with
  | none=>rfl
  | some o=>
   cases o with
   | inl h=>exact D
   | inr r=>rfl
end
def YN {π:Type}(L:L_ (Nat×π))(h:Array Nat):L_ (Nat×π):=L.filter λq=>!h.contains q.1
def Qb6 {π:Type}{L:L_ (Nat×π)}(hn:(L.map (·.1)).Nodup){D:Array Nat}{q:Nat×π}(hq:q∈YN L D):(YN L D).Perm (q::YN L (D.push q.1)):=by
 have key:∀(l:L_ (Nat×π)),(l.map (·.1)).Nodup->∀p:Nat×π->Bool,q∈l->p q=true->(l.filter p).Perm (q::l.filter λe=>p e&&!(e.1==q.1)):=by
  intro l
  induction l with
  | nil=>intro _ p h;simp at h
  | cons y l ih=>
   intro hn p hx hp
   rw[Ul,Nn]at hn
   rcases Yw.1 hx with rfl | hx
   ·have h1:l.filter (λe=>p e&&!(e.1==q.1))=l.filter p:=by
     apply List.filter_congr
     intro e he
     have:e.1≠q.1:=λh=>hn.1 (by rw[<-h];exact List.mem_map_of_mem (f:=λq:Nat×π=>q.1) he)
     simp[this]
    simp[Nj,hp,h1]
   have hne:y.1≠q.1:=λh=>hn.1 (by rw[h];exact List.mem_map_of_mem (f:=λq:Nat×π=>q.1) hx)
   have h2:=ih hn.2 p hx hp
   by_cases hy:p y=true
   ·have e1:(y::l).filter p=y::l.filter p:=by simp[Nj,hy]
    have e2:((y::l).filter λe=>p e&&!(e.1==q.1))=y::l.filter λe=>p e&&!(e.1==q.1):=by simp[Nj,hy,hne]
    rw[e1,e2]
    exact(List.Perm.cons y h2).trans (List.Perm.swap _ _ _)
   have e1:(y::l).filter p=l.filter p:=by simp[Nj,hy]
   have e2:((y::l).filter λe=>p e&&!(e.1==q.1))=l.filter λe=>p e&&!(e.1==q.1):=by simp[Nj,hy]
   rw[e1,e2];exact h2
 have e2:YN L (D.push q.1)=L.filter λe=>(!D.contains e.1)&&!(e.1==q.1):=by
  unfold YN
  apply List.filter_congr
  intro e _
  rw[ZN]
  simp[Array.mem_push]
 rw[e2]
 unfold YN at hq ⊢
 rw[Lx]at hq
 exact key L hn _ hq.1 hq.2
def QnZ {α:Type}:∀{l m:L_ α},l.Nodup->(∀x∈l,x∈m)->m.length<=l.length->l.Perm m:=by
 classical
 intro l
 induction l with
 | nil=>intro m _ _ h;have:m=[]:=HV.1 (Nat.le_zero.1 h);subst this;exact .nil
 | cons x l ih=>
  intro m D hs hl
  rw[Nn]at D
  have hx:=hs x XY
  have hp:=List.perm_cons_erase hx
  refine(List.Perm.cons x (ih D.2 (λy hy=>?_) ?_)).trans hp.symm
  ·have hne:y≠x:=λe=>D.1 (e▸hy)
   exact(List.mem_erase_of_ne hne).2 (hs y (Yo _ hy))
  have:=hp.length_eq
  simp at this hl
  omega
section
variable {P:Program}{C:Xx}{Q:Exit->St->Prop}{σ σ':St}{ks:L_ Fr}{o:Oper}
def AK.weakenE {ι:Type _}{f:ι->St}{pt:Pt}(h:∀a w,R C σ a w->∃i,R C (f i) a w)(k:∀i,AK P C Q pt ks (f i)):AK P C Q pt ks σ:=by
 cases pt with
 | c c=>exact λa w D=>let ⟨i,hi⟩:=h a w D;k i a w hi
 | o ops l=>exact λa w D=>let ⟨i,hi⟩:=h a w D;k i a w hi
 | x e=>exact λa w D=>let ⟨i,hi⟩:=h a w D;k i a w hi
def HG {κ α:Type}(e:κ->V)(f:α->V)(L:L_ (Nat×(κ×α))):L_ (Nat×(V×V)):=L.map λq=>(q.1,(e q.2.1,f q.2.2))
def AK.openMap {κ α:Type}[DecidableEq κ]{K:TypeId}{e:κ->V}{val:κ->Value}{f:α->V}{lt:L_ (κ×α)}{b:Nat}{pt:Pt}(hk:Up P K e val)(hb:look σ.hp b=some (.map (QN e f lt)))
  (h:∀bm D (L:L_ (Nat×(κ×α))),(L.map (·.1)).Nodup->(L.map Prod.snd).Perm lt->AK P C Q pt ks (σ.set b (.mapX bm D (HG e f L) (QN e f lt)))):AK P C Q pt ks σ:=by
 have key:∀a w,R C σ a w->∃i:{ i:Nat×Nat×L_ (Nat×(κ×α)) // (i.2.2.map (·.1)).Nodup/\(i.2.2.map Prod.snd).Perm lt },R C (σ.set b (.mapX i.1.1 i.1.2.1 (HG e f i.1.2.2) (QN e f lt))) a w:=by
  intro a w ⟨φ,hr⟩
  rcases hr.heap b _ hb with⟨B,hB,hrep⟩|⟨_,h2⟩
  ·obtain⟨es,D,h1,h2,h3,h4,h5,h6⟩:=hrep
   have hL:∀l:L_ MapEntry,(∀x∈l,x∈es.toList)->∃L:L_ (MapEntry×(κ×α)),L.map Prod.fst=l/\∀q∈L,q.2∈lt/\XB (Xl C φ w) w q.1.key (e q.2.1)/\XB (Xl C φ w) w q.1.val (f q.2.2):=by
    intro l
    induction l with
    | nil=>intro _;exact⟨[],rfl,λq hq=>by simp at hq⟩
    | cons x l ih=>
     intro hx
     obtain⟨L,e1,e2⟩:=ih λy hy=>hx y (Yo _ hy)
     obtain⟨p,hp,a1,a2⟩:=h5 x (hx x XY)
     obtain⟨q,hq,rfl⟩:=YL.1 hp
     exact⟨(x,q)::L,by rw[Ul,e1],λy hy=>by
      rcases Yw.1 hy with rfl | hy
      ·exact⟨hq,a1,a2⟩
      exact e2 y hy⟩
   obtain⟨L,e1,e2⟩:=hL es.toList λ_ h=>h
   have hn:=(TK hk.einj).1 h3
   have hborn:(L.map (·.1.born)).Nodup:=by
    have:L.map (·.1.born)=es.toList.map (·.born):=by rw[<-e1,TD];rfl
    rw[this];exact h2.2.1
   have hkeys:(L.map λq=>q.2.1).Nodup:=by
    have h7:(L.map λq=>q.1.key).Nodup:=by
     have:(L.map λq=>q.1.key)=es.toList.map (·.key):=by rw[<-e1,TD];rfl
     rw[this];exact h2.2.2
    have h8:(L.map λq=>q.1.key)=(L.map λq=>q.2.1).map val:=by
     rw[TD]
     apply List.map_congr_left
     intro q hq
     exact hk.inv _ _ _ _ (e2 q hq).2.1
    rw[h8]at h7
    exact(TG.1 h7).imp λhab e'=>hab (by rw[e'])
   have hperm:(L.map Prod.snd).Perm lt:=by
    have hnd:(L.map Prod.snd).Nodup:=by
     have:(L.map λq=>q.2.1)=(L.map Prod.snd).map Prod.fst:=by rw[TD];rfl
     rw[this]at hkeys
     exact(TG.1 hkeys).imp λhab e'=>hab (by rw[e'])
    have hsub:∀q∈L.map Prod.snd,q∈lt:=λq hq=>by
     obtain⟨y,hy,rfl⟩:=YL.1 hq
     exact(e2 y hy).1
    have hlen:lt.length<=(L.map Prod.snd).length:=by
     have:(L.map Prod.fst).length=es.toList.length:=by rw[e1]
     simp[QN]at h4 this ⊢
     omega
    have hltnd:lt.Nodup:=(TG.1 hn).imp λhab e'=>hab (by rw[e'])
    exact QnZ hnd hsub hlen
   have hes:es=(L.map Prod.fst).toArray:=by rw[e1]
   have hfst:(L.map λq=>(q.1,(e q.2.1,f q.2.2))).map Prod.fst=L.map Prod.fst:=by simp
   refine⟨⟨(B.b,D,L.map λq=>(q.1.born,q.2)),by show((L.map _).map _).Nodup;rw[TD];exact hborn,by show((L.map _).map _).Perm _;rw[TD];exact hperm⟩,φ,?_⟩
   refine hr.say' hb (λB' hB' _=>?_) (λe'=>e'.elim)
   rw[hB]at hB';cases hB'
   refine⟨rfl,L.map λq=>(q.1,(e q.2.1,f q.2.2)),by simp[HG],by rw[h1,hfst,hes],by rw[hfst,<-hes];exact h2,h3,?_,λq hq=>?_⟩
   ·have:(L.map λq=>(q.1,(e q.2.1,f q.2.2))).map Prod.snd=QN e f (L.map Prod.snd):=by simp[QN]
    rw[this];exact hperm.map _
   obtain⟨q',hq',rfl⟩:=YL.1 hq
   exact(e2 q' hq').2
  exact h2.elim
 exact AK.weakenE key λi=>h _ _ _ i.2.1 i.2.2
def R.closeMap {b bm D:Nat}{L:L_ (Nat×(V×V))}{l:L_ (V×V)}(hb:look σ.hp b=some (.mapX bm D L l)){a:Act}{w:World}(h:R C σ a w):R C (σ.set b (.map l)) a w:=by
 obtain⟨φ,hr⟩:=h
 refine⟨φ,hr.say' hb (λB hB hrep=>?_) (λe'=>e'.elim)⟩
 obtain⟨h1,M,rfl,h2,h3,h4,h5,h6⟩:=hrep
 refine⟨(M.map Prod.fst).toArray,D,h2,h3,h4,by have:=h5.length_eq;simpa using this,λx hx=>?_,λp hp=>?_⟩
 ·obtain⟨q,hq,rfl⟩:=YL.1 (by simpa using hx:x∈M.map Prod.fst)
  exact⟨q.2,h5.mem_iff.1 (List.mem_map_of_mem hq),(h6 q hq).1,(h6 q hq).2⟩
 obtain⟨q,hq,rfl⟩:=YL.1 (h5.mem_iff.2 hp)
 exact⟨q.1,by simpa using (⟨q.2.1,q.2.2,hq⟩:∃a b,(q.1,a,b)∈M),(h6 q hq).1,(h6 q hq).2⟩
def AK.closeMap {b bm D:Nat}{L:L_ (Nat×(V×V))}{l:L_ (V×V)}{pt:Pt}(hb:look σ.hp b=some (.mapX bm D L l))(k:AK P C Q pt ks (σ.set b (.map l))):AK P C Q pt ks σ:=AK.weaken (λ_ _ h=>R.closeMap hb h) k
def Ql.range {T d b bm D K E:Nat}{x:Operand}{L:L_ (Nat×(V×V))}{l:L_ (V×V)}(ho:o.op=.range T x)(hd:o.dst=some d)(hn:B_ d C)(hx:σ.opd x=some (.map b))(hb:look σ.hp b=some (.mapX bm D L l))
  (hT:NR P T=some (K,E)) (hf:look σ.hp d=none):Ql P C o σ ((σ.set d (.itr bm D #[] none)).put d (.loc d 0 0)):=by
 refine Ql.val λφ a w hr=>?_
 obtain⟨B,hB,hev⟩:=(hr.opd hx).map_inv
 obtain⟨rfl,M,rfl,h2,_⟩:=hr.block hB hb
 refine⟨.pointer (some ⟨w.heap.size,0,none⟩),w.alloc (.mapIter (some B.b) D #[] D),ext φ d ⟨w.heap.size,1,0,[],0⟩,?_,?_⟩
 ·simp only[execOp,ho,hev,Xh,run_range_map w T K E B.b _ D (Fq hT) h2,Xq,Xw]
 rw[hd]
 refine(hr.alloc (cap:=1) (z:=0) hf (C.slot hn) (ob:=.itr B.b D #[] none) (obj:=.mapIter (some B.b) D #[] D) ⟨heap_alloc_new w _,rfl,λx h=>by cases h⟩).put (XE hn) ?_
 exact .loc d 0 0 ⟨w.heap.size,1,0,[],0⟩ (Xv _ _ _)
def Ql.range0 {T d K E:Nat}{x:Operand}(ho:o.op=.range T x)(hd:o.dst=some d)(D:B_ d C)(hx:σ.opd x=some (.lit (.map none)))(hT:NR P T=some (K,E))(hf:look σ.hp d=none):
  Ql P C o σ ((σ.set d .itr0).put d (.loc d 0 0)):=by
 refine Ql.val λφ a w hr=>?_
 have h:=(hr.opd hx).lit_inv
 refine⟨.pointer (some ⟨w.heap.size,0,none⟩),w.alloc (.mapIter none 0 #[] 0),ext φ d ⟨w.heap.size,1,0,[],0⟩,?_,?_⟩
 ·simp only[execOp,ho,h,Xh,run_range_nilMap w T K E (Fq hT),Xq,Xw]
 rw[hd]
 refine(hr.alloc (cap:=1) (z:=0) hf (C.slot D) (ob:=.itr0) (obj:=.mapIter none 0 #[] 0) ⟨#[],0,heap_alloc_new w _,rfl⟩).put (XE D) ?_
 exact .loc d 0 0 ⟨w.heap.size,1,0,[],0⟩ (Xv _ _ _)
def Ql.next0 {d b:Nat}{x:Operand}(ho:o.op=.next x false)(hd:o.dst=some d)(hn:B_ d C)(D:σ.opd x=some (.loc b 0 0))(hb:look σ.hp b=some .itr0):Ql P C o σ (σ.put d (.tup [.b false])):=by
 refine Ql.val λφ a w hr=>?_
 obtain⟨B,hB,h⟩:=(hr.opd D).loc_inv
 obtain⟨s,c,h1,h0⟩:=hr.block hB hb
 refine⟨.tuple #[.bool false],w,φ,?_,?_⟩
 ·simp only[Cu,No,h0]at h
  simp only[execOp,ho,h,Xh]
  have:(Instr.next (.pointer (some ⟨B.b,0,none⟩)) false o.type).run P w=.ok (.tuple #[.bool false]) w:=by
   simp only[Instr.next,getObj,Xh,Sem.run,h1,Result.andThen]
   rfl
  rw[this];rfl
 rw[hd]
 refine hr.put (XE hn) (.tup _ _ rfl λj x v D hv=>?_)
 cases j with
 | zero=>simp at D hv;subst D;subst hv;exact .dat (.b _)
 | succ j=>simp at D
def Ql.entry {d b m bm h:Nat}{x:Operand}{L:L_ (Nat×(V×V))}{l:L_ (V×V)}{seen:Array Nat}{q:Nat×(V×V)}(ho:o.op=.entry x)(hd:o.dst=some d)(hn:B_ d C)(D:σ.opd x=some (.loc b 0 0))
  (hb:look σ.hp b=some (.itr bm h seen (some q.1))) (hm:look σ.hp m=some (.mapX bm h L l)) (hq:q∈L):Ql P C o σ (σ.put d (.tup [q.2.1,q.2.2])):=by
 refine Ql.same hd hn λφ a w hr=>?_
 obtain⟨B,hB,hev⟩:=(hr.opd D).loc_inv
 obtain⟨h1,h0,h2⟩:=hr.block hB hb
 obtain⟨s0,rfl⟩:=h2 _ rfl
 rcases hr.heap m _ hm with⟨M,hM,g1,N,rfl,g2,g3,g4,g5,g6⟩|⟨_,e'⟩
 ·obtain⟨q,hn,rfl⟩:=YL.1 hq
  refine⟨.tuple #[q.1.key,q.1.val],?_,.tup _ _ rfl λj x v D hv=>?_⟩
  ·simp only[Cu,No,h0]at hev
   subst g1
   have he:=run_entry_at (P:=P) w B.b M.b h s0 _ h q.1 h1 g2 (by simpa using (⟨q.2.1,q.2.2,hn⟩:∃a b,(q.1,a,b)∈N)) g3.2.1
   simp only[execOp,ho,hev,Xh,he,Xq,Xw]
  cases j with
  | zero=>simp at D hv;subst D;subst hv;exact .dat (g6 q hn).1
  | succ j=>
   cases j with
   | zero=>simp at D hv;subst D;subst hv;exact .dat (g6 q hn).2
   | succ j=>simp at D
 exact e'.elim
def Qf5 {π:Type}{N:L_ (MapEntry×π)}{h:Array Nat}:(leftOf (N.map Prod.fst).toArray h).toList=(N.filter λq=>!h.contains q.1.born).map Prod.fst:=by
 simp only[leftOf,Array.toList_filter,List.filter_map];rfl
def Qid {π:Type}{N:L_ (MapEntry×π)}{h:Array Nat}:YN (N.map λq=>(q.1.born,q.2)) h=(N.filter λq=>!h.contains q.1.born).map λq=>(q.1.born,q.2):=by
 simp only[YN,List.filter_map];rfl
def AK.next {d b m bm h:Nat}{x:Operand}{ops:Array Oper}{rest:L_ Oper}{L:L_ (Nat×(V×V))}{l:L_ (V×V)}{D:Array Nat}{cur:O_ Nat}(hg:o.guard=none)(ho:o.op=.next x false)(hd:o.dst=some d)(hn:B_ d C)
  (hx:σ.opd x=some (.loc b 0 0)) (hb:look σ.hp b=some (.itr bm h D cur)) (hm:look σ.hp m=some (.mapX bm h L l)) (hbm:Nat.beq b m=false)
  (hdone:YN L D=[]->AK P C Q (.o ops rest) ks (σ.put d (.tup [.b false])))
  (hpick:∀q∈YN L D,AK P C Q (.o ops rest) ks ((σ.set b (.itr bm h (D.push q.1) (some q.1))).put d (.tup [.b true,.J,.J]))):AK P C Q (.o ops (o::rest)) ks σ:=by
 intro a w ⟨φ,hr⟩
 simp only[wpListIn,Region.wanted,hg,if_true]
 obtain⟨B,hB,hev⟩:=(hr.opd hx).loc_inv
 obtain⟨h1,h0,h2⟩:=hr.block hB hb
 simp only[Cu,No,h0]at hev
 rcases hr.heap m _ hm with⟨M,hM,g1,N,rfl,g2,g3,g4,g5,g6⟩|⟨_,e'⟩
 ·subst g1
  refine⟨λ_ _=>trivial,?_⟩
  rw[Oper.semAt_eq _ _ _ (by rw[ho];intro c hc;cases hc)]
  have hold:∀y∈(N.map Prod.fst).toArray.toList,y.born<h:=g3.1
  rcases run_next_at (P:=P) w o.type B.b M.b h h D _ h h1 g2 hold (YY _)with⟨k1,k2⟩|⟨e,k1,w1,k2,k3⟩
  ·simp only[execOp,ho,hev,Xh,k2,Xq,Xw]
   rw[Oper.uponIn_value]
   refine hdone ?_ _ _ ⟨φ,?_⟩
   ·have h3:(leftOf (N.map Prod.fst).toArray D).toList.length=0:=by simpa using k1
    rw[Qf5]at h3
    exact HV.1 (by simpa[Qid] using h3)
   rw[hd]
   refine hr.put (XE hn) (.tup _ _ rfl λj x v hx hv=>?_)
   cases j with
   | zero=>simp at hx hv;subst hx;subst hv;exact .dat (.b _)
   | succ j=>simp at hx
  simp only[execOp,ho,hev,Xh,k3,Xq,Xw]
  rw[Oper.uponIn_value]
  rw[Qf5]at k1
  obtain⟨q,hq,rfl⟩:=YL.1 k1
  refine hpick (q.1.born,q.2) (by rw[Qid];exact YL.2 ⟨q,hq,rfl⟩) _ _ ?_
  have hr1:RR C φ σ a w1:=by
   rcases k2 with rfl | rfl
   ·exact hr
   exact hr.step rfl rfl rfl (YY _) (λ_ _=>rfl)
  have hheap:w1.heap=w.heap:=by rcases k2 with rfl | rfl<;>rfl
  have hlt:=(hr1.lt b B B.b hB B.self).1
  have h4:RR C φ (σ.set b (.itr M.b h (D.push q.1.born) (some q.1.born))) a (Go.ChangeMaps.setBlock w1 B.b (.mapIter (some M.b) h (D.push q.1.born) h)):=by
   refine hr1.write hB (by rfl) (by rfl) (by rfl) ?_ ?_ ?_
   ·simp[Go.ChangeMaps.setBlock]
   ·intro k hk
    simp only[Go.ChangeMaps.setBlock]
    exact HE _ (λe=>hk e)
   refine⟨?_,h0,λx e=>?_⟩
   ·simp[Go.ChangeMaps.setBlock,QaP,hlt]
   cases e;exact⟨D,rfl⟩
  refine⟨φ,?_⟩
  rw[hd]
  refine h4.put (XE hn) (.tup _ _ rfl λj x v hx hv=>?_)
  cases j with
  | zero=>simp at hx hv;subst hx;subst hv;exact .dat (.b _)
  | succ j=>
   cases j with
   | zero=>simp at hx hv;subst hv;exact .dat (.J _)
   | succ j=>
    cases j with
    | zero=>simp at hx hv;subst hv;exact .dat (.J _)
    | succ j=>simp at hx
 exact e'.elim
def Qk1 {κ α:Type}{e:κ->V}{f:α->V}{L:L_ (Nat×(κ×α))}{h:Array Nat}:YN (HG e f L) h=HG e f (YN L h):=by
 simp only[YN,HG,List.filter_map];rfl
def AK.nextT {d b m bm D:Nat}{x:Operand}{ops:Array Oper}{rest:L_ Oper}{κ α:Type}{e:κ->V}{f:α->V}{L:L_ (Nat×(κ×α))}{l:L_ (V×V)}{seen:Array Nat}{cur:O_ Nat}(hg:o.guard=none)(ho:o.op=.next x false)(hd:o.dst=some d)
  (hn:B_ d C) (hx:σ.opd x=some (.loc b 0 0)) (hb:look σ.hp b=some (.itr bm D seen cur)) (hm:look σ.hp m=some (.mapX bm D (HG e f L) l)) (hbm:Nat.beq b m=false)
  (hdone:YN L seen=[]->AK P C Q (.o ops rest) ks (σ.put d (.tup [.b false])))
  (hpick:∀x k v,(x,(k,v))∈YN L seen->AK P C Q (.o ops rest) ks ((σ.set b (.itr bm D (seen.push x) (some x))).put d (.tup [.b true,.J,.J]))):AK P C Q (.o ops (o::rest)) ks σ:=by
 refine AK.next hg ho hd hn hx hb hm hbm (λh=>hdone ?_) (λq hq=>?_)
 ·rw[Qk1]at h;simpa[HG] using h
 rw[Qk1]at hq
 obtain⟨q',hq',rfl⟩:=YL.1 hq
 exact hpick q'.1 q'.2.1 q'.2.2 hq'
def Ql.entryT {d b m bm h:Nat}{x:Operand}{κ α:Type}{e:κ->V}{f:α->V}{L:L_ (Nat×(κ×α))}{l:L_ (V×V)}{D:Array Nat}{y:Nat}{k:κ}{v:α}(ho:o.op=.entry x)(hd:o.dst=some d)(hn:B_ d C)(hx:σ.opd x=some (.loc b 0 0))
  {s0:Array Nat} (hq:(y,(k,v))∈YN L s0) (hb:look σ.hp b=some (.itr bm h D (some y))) (hm:look σ.hp m=some (.mapX bm h (HG e f L) l)):Ql P C o σ (σ.put d (.tup [e k,f v])):=
 Ql.entry (q:=(y,(e k,f v))) ho hd hn hx hb hm (YL.2 ⟨(y,(k,v)),(Lx.1 hq).1,rfl⟩)
def AK.loopOnce {c:Code}(h:AK P C Q (.c c) (.cut (λ_=>False)::ks) σ):AK P C Q (.c (.loop c)) ks σ:=by
 intro a w hR
 refine wpIn_loop_rounds 1 ?_
 rw[roundsIn_succ]
 refine wpIn_mono (h a w hR) ?_
 rintro e a' w' ⟨σ',D,h2⟩
 cases e<;>first | exact D.elim | exact⟨σ',D,h2⟩
def Qtd {τ ρ π:Type}(body:τ->π->O_ (τ⊕ρ))(L:L_ (Nat×π))(E:τ->Array Nat->St->Prop)(D:ρ->Exit->St->Prop)(PD:τ->Exit->St->Prop)(s:τ)(h:Array Nat):Exit->St->Prop:=λe σ'=>
 (YN L h=[]/\e≠.normal/\PD s e σ')\/∃q∈YN L h,(∃s',body s q.2=some (.inl s')/\e=.normal/\E s' (h.push q.1) σ')\/(∃r,body s q.2=some (.inr r)/\e≠.normal/\D r e σ')
def AK.range {τ ρ π:Type}{body:τ->π->O_ (τ⊕ρ)}{c:Code}{lt:L_ π}{L:L_ (Nat×π)}(E:τ->Array Nat->St->Prop)(Post:ρ->Exit->St->Prop)(PD:τ->Exit->St->Prop){s0:τ}{r:τ⊕ρ}(hn:(L.map (·.1)).Nodup)(hp:(L.map Prod.snd).Perm lt)
  (hr:Hj body s0 lt=some r) (h0:E s0 #[] σ)
  (round:∀s D σ,E s D σ->(∀q∈YN L D,∃o,body s q.2=some o)->AK P C (Qtd body L E Post PD s D) (.c c) [] σ)
  (hQ:∀e σ',(Sum.elim (λs=>PD s e σ') (λq=>Post q e σ') r)->AK P C Q (.x e) ks σ'):AK P C Q (.c (.loop c)) ks σ:=by
 obtain⟨hperm,hrun⟩:=LA.1 hr
 have key:∀(k:Nat) (s:τ) (D:Array Nat),(YN L D).length=k->(∃dn,(dn++(YN L D).map Prod.snd).Perm lt/\Dg body s0 dn=some (.inl s))->∀σ a w,E s D σ->R C σ a w->
   Code.roundsIn C.F 0 P c (up C λe σ'=>Sum.elim (λs=>PD s e σ') (λq=>Post q e σ') r) (k+1) a w:=by
  intro k
  induction k with
  | zero=>
   rintro s D hk ⟨dn,hd1,hd2⟩ σ a w hE hR
   have hnil:=HV.1 hk
   rw[roundsIn_succ]
   refine wpIn_mono (round s D σ hE (λq hq=>by rw[hnil]at hq;cases hq) a w hR) ?_
   rintro e a' w' ⟨σ',hq,hR'⟩
   rcases hq with⟨_,h2,h3⟩|⟨q,hq,_⟩
   ·rw[hnil]at hd1
    have:Dg body s0 dn=some r:=by rw[<-hrun];exact hperm dn (by simpa using hd1)
    rw[this]at hd2;cases hd2
    cases e<;>first | exact absurd rfl h2 | exact⟨σ',h3,hR'⟩
   rw[hnil]at hq;cases hq
  | succ k ih=>
   rintro s D hk ⟨dn,hd1,hd2⟩ σ a w hE hR
   rw[roundsIn_succ]
   have hall:∀q∈YN L D,∃o,body s q.2=some o/\∃rest,(dn++q.2::rest).Perm lt/\rest=(YN L (D.push q.1)).map Prod.snd:=λq hq=>by
    have h1:=(Qb6 hn hq).map Prod.snd
    have h2:(dn++q.2::(YN L (D.push q.1)).map Prod.snd).Perm lt:=((List.Perm.append_left dn h1).symm).trans hd1
    have h3:Dg body s0 (dn++q.2::(YN L (D.push q.1)).map Prod.snd)=some r:=by rw[<-hrun];exact hperm _ h2
    rw[QaW,hd2]at h3
    simp only[Qd,Sum.elim_inl,Dg]at h3
    cases hb:body s q.2 with
    | none=>rw[hb]at h3;cases h3
    | some o=>exact⟨o,rfl,_,h2,rfl⟩
   refine wpIn_mono (round s D σ hE (λq hq=>let ⟨o,h,_⟩:=hall q hq;⟨o,h⟩) a w hR) ?_
   rintro e a' w' ⟨σ',hq,hR'⟩
   rcases hq with⟨h1,_,_⟩|⟨q,hq,⟨s',h1,rfl,h3⟩|⟨r',h1,h2,h3⟩⟩
   ·rw[h1]at hk;cases hk
   ·obtain⟨_,_,rest,h5,h6⟩:=hall q hq
    refine ih s' (D.push q.1) ?_ ⟨dn++[q.2],?_,?_⟩ σ' a' w' h3 hR'
    ·have:=(Qb6 hn hq).length_eq;simp at this;omega
    ·rw[WY,List.singleton_append,<-h6];exact h5
    rw[QaW,hd2];simp only[Qd,Sum.elim_inl,Dg,h1]
   obtain⟨_,_,rest,h5,h6⟩:=hall q hq
   have h7:Dg body s0 (dn++q.2::rest)=some r:=by rw[<-hrun];exact hperm _ h5
   rw[QaW,hd2]at h7
   simp only[Qd,Sum.elim_inl,Dg,h1,Sum.elim_inr]at h7
   cases h7
   cases e<;>first | exact absurd rfl h2 | exact⟨σ',h3,hR'⟩
 intro a w hR
 have hL:YN L #[]=L:=by simp[YN]
 refine wpIn_mono (wpIn_loop_rounds _ (key _ s0 #[] rfl ⟨[],by rw[hL];simpa using hp,rfl⟩ σ a w h0 hR)) ?_
 rintro e a' w' ⟨σ',h1,h2⟩
 exact hQ e σ' h1 a' w' h2
end
structure Yp where
 kills:List Nat
 sets:List (Nat×Ob)
 put:Option (Nat×V)
def St.sets (σ:St):H_->St
 | []=>σ
 | (o,ob)::r=>(σ.sets r).set o ob
def Yp.run (M:Yp)(σ:St):St:=match M.put with
 | none=>(σ.killL M.kills).sets M.sets
 | some (d,v)=>((σ.killL M.kills).sets M.sets).put d v
def Er (σ B:St):Prop:=(∀t v,look B.fr t=some v->look σ.fr t=some v)/\∀p ob,look B.hp p=some ob->look σ.hp p=some ob
def Ru {b:Nat}:∀(l:S_) (t:Nat),look (Hg b l) t=(look l t).map (V.kill b):=by
 intro l
 induction l with
 | nil=>intro t;rfl
 | cons p l h=>
  obtain⟨k,v⟩:=p
  intro t
  by_cases e:k=t
  ·subst e;rw[Hg,QH,QH];rfl
  rw[Hg,QA _ _ e,QA _ _ e];exact h t
def LB {b:Nat}:∀(l:H_) (t:Nat),look (Ud b l) t=if t=b then none else(look l t).map (Ob.kill b):=by
 intro l t
 by_cases h:t=b
 ·rw[if_pos h]
  cases hl:look (Ud b l) t with
  | none=>rfl
  | some ob=>obtain⟨D,_⟩:=JS _ _ _ hl;exact absurd h D
 rw[if_neg h]
 cases hl:look l t with
 | none=>
  cases hk:look (Ud b l) t with
  | none=>rfl
  | some ob=>obtain⟨_,ob',D,_⟩:=JS _ _ _ hk;rw[hl]at D;cases D
 | some ob=>exact GO _ _ _ h hl
def Er.kill {σ B:St}(h:Er σ B)(b:Nat):Er (σ.kill b) (B.kill b):=by
 refine⟨λt v hv=>?_,λp ob D=>?_⟩
 ·have hv:look (Hg b B.fr) t=some v:=hv
  show look (Hg b σ.fr) t=some v
  rw[Ru]at hv ⊢
  obtain⟨u,hu,rfl⟩:=XW.1 hv
  rw[h.1 t u hu];rfl
 have D:look (Ud b B.hp) p=some ob:=D
 show look (Ud b σ.hp) p=some ob
 rw[LB]at D ⊢
 split at D
 ·cases D
 rename_i hne
 rw[if_neg hne]
 obtain⟨u,hu,rfl⟩:=XW.1 D
 rw[h.2 p u hu];rfl
def Er.killL : ∀{l:L_ Nat} {σ B:St},Er σ B->Er (σ.killL l) (B.killL l):=by
 intro l
 induction l with
 | nil=>intro σ B h;exact h
 | cons b l D=>intro σ B h;exact D (h.kill b)
def Er.set {σ B:St}(h:Er σ B)(o:Nat)(ob:Ob):Er (σ.set o ob) (B.set o ob):=by
 refine⟨h.1,λp u D=>?_⟩
 by_cases e:p=o
 ·subst e;rw[St.look_set_same]at D ⊢;exact D
 rw[St.look_set_other _ _ (Ne.symm e)]at D ⊢;exact h.2 p u D
def Er.sets : ∀{l:H_} {σ B:St},Er σ B->Er (σ.sets l) (B.sets l):=by
 intro l
 induction l with
 | nil=>intro σ B h;exact h
 | cons p l D=>intro σ B h;exact(D h).set p.1 p.2
def Er.put {σ B:St}(h:Er σ B)(d:Nat)(v:V):Er (σ.put d v) (B.put d v):=by
 refine⟨λt u D=>?_,h.2⟩
 have D:look ((d,v)::B.fr) t=some u:=D
 show look ((d,v)::σ.fr) t=some u
 by_cases e:d=t
 ·subst e;rw[QH]at D ⊢;exact D
 rw[QA _ _ e]at D ⊢;exact h.1 t u D
def Er.run {σ B:St}(h:Er σ B)(M:Yp):Er (M.run σ) (M.run B):=by
 unfold Yp.run
 split
 ·exact h.killL.sets
 exact h.killL.sets.put _ _
def Yp.keeps (M:Yp)(t:Nat)(v:V):Bool:=M.kills.all (λb=>v.free b)&&(match M.put with | none=>true | some (d,_)=>!(Nat.beq d t))
def Yp.keepsO (M:Yp)(p:Nat):Bool:=M.kills.all (λb=>!(Nat.beq b p))&&M.sets.all (λq=>!(Nat.beq q.1 p))
def Ob.keep1 (b:Nat):Ob->Bool
 | .var h=>h.all (V.freeC b)
 | .lp _ _ h _=>h.all (V.freeC b)
 | _=>true
def Qn0 : ∀{l:L_ Nat} {σ:St} {t:Nat} {v:V},l.all (λb=>v.free b)=true->look σ.fr t=some v->look (σ.killL l).fr t=some v:=by
 intro l
 induction l with
 | nil=>intro σ t v _ h;exact h
 | cons b l ih=>
  intro σ t v D h
  rw[RY,QQ]at D
  refine ih D.2 ?_
  show look (Hg b σ.fr) t=some v
  rw[Ru,h,Ww,V.kill,D.1];rfl
def QjU : ∀{l:H_} {σ:St},(σ.sets l).fr=σ.fr:=by
 intro l
 induction l with
 | nil=>intro σ;rfl
 | cons p l h=>intro σ;exact h
def Yp.keeps_look {M:Yp}{σ:St}{t:Nat}{v:V}(D:M.keeps t v=true)(h:look σ.fr t=some v):look (M.run σ).fr t=some v:=by
 unfold Yp.keeps at D
 rw[QQ]at D
 have h1:look ((σ.killL M.kills).sets M.sets).fr t=some v:=by rw[QjU];exact Qn0 D.1 h
 unfold Yp.run
 split
 ·exact h1
 rename_i d u hp
 rw[hp]at D
 have hne:d≠t:=Fh D.2
 show look ((d,u)::_) t=some v
 rw[QA _ _ hne];exact h1
def QjV : ∀{l:L_ Nat} {σ:St} {p:Nat},look σ.hp p=none->look (σ.killL l).hp p=none:=by
 intro l
 induction l with
 | nil=>intro σ p h;exact h
 | cons b l D=>
  intro σ p h
  refine D ?_
  show look (Ud b σ.hp) p=none
  rw[LB,h];simp
def Qmh : ∀{l:H_} {σ:St} {p:Nat},l.all (λq=>!(Nat.beq q.1 p))=true->look σ.hp p=none->look (σ.sets l).hp p=none:=by
 intro l
 induction l with
 | nil=>intro σ p _ h;exact h
 | cons q l ih=>
  intro σ p D h
  rw[RY,QQ]at D
  show look ((σ.sets l).set q.1 q.2).hp p=none
  rw[St.look_set_other _ _ (Fh D.1)];exact ih D.2 h
def Yp.none_look {M:Yp}{σ:St}{p:Nat}(hk:M.sets.all (λq=>!(Nat.beq q.1 p))=true)(h:look σ.hp p=none):look (M.run σ).hp p=none:=by
 have D:look ((σ.killL M.kills).sets M.sets).hp p=none:=Qmh hk (QjV h)
 unfold Yp.run
 split<;>exact D
def Ob.kill_keep {ob:Ob}{b:Nat}(h:ob.keep1 b=true):ob.kill b=ob:=by
 cases ob with
 | var D=>
  simp only[Ob.keep1,XN]at h
  simp only[Ob.kill,Ob.var.injEq]
  conv=>rhs;rw[<-List.map_id D]
  apply List.map_congr_left
  intro v hv
  simp only[V.killC,h v hv,Qz,id]
 | lp l K D q=>
  simp only[Ob.keep1,XN]at h
  simp only[Ob.kill,Ob.lp.injEq,true_and,and_true]
  conv=>rhs;rw[<-List.map_id D]
  apply List.map_congr_left
  intro v hv
  simp only[V.killC,h v hv,Qz,id]
 | _=>rfl
def Qlq : ∀{l:L_ Nat} {σ:St} {p:Nat} {ob:Ob},l.all (λb=>!(Nat.beq b p))=true->l.all (λb=>ob.keep1 b)=true->look σ.hp p=some ob->look (σ.killL l).hp p=some ob:=by
 intro l
 induction l with
 | nil=>intro σ p ob _ _ h;exact h
 | cons b l ih=>
  intro σ p ob D hp h
  rw[RY,QQ]at D hp
  refine ih D.2 hp.2 ?_
  show look (Ud b σ.hp) p=some ob
  rw[LB,if_neg (Fh D.1).symm,h,Ww,Ob.kill_keep hp.1]
def Qmi : ∀{l:H_} {σ:St} {p:Nat} {ob:Ob},l.all (λq=>!(Nat.beq q.1 p))=true->look σ.hp p=some ob->look (σ.sets l).hp p=some ob:=by
 intro l
 induction l with
 | nil=>intro σ p ob _ h;exact h
 | cons q l ih=>
  intro σ p ob D h
  rw[RY,QQ]at D
  show look ((σ.sets l).set q.1 q.2).hp p=some ob
  rw[St.look_set_other _ _ (Fh D.1)];exact ih D.2 h
def Yp.keepsO_look {M:Yp}{σ:St}{p:Nat}{ob:Ob}(D:M.keepsO p=true)(hp:M.kills.all (λb=>ob.keep1 b)=true)(h:look σ.hp p=some ob):look (M.run σ).hp p=some ob:=by
 unfold Yp.keepsO at D
 rw[QQ]at D
 have h1:look ((σ.killL M.kills).sets M.sets).hp p=some ob:=Qmi D.2 (Qlq D.1 hp h)
 unfold Yp.run
 split<;>exact h1
section
variable {P:Program}{C:Xx}{Q:Exit->St->Prop}{ops:Array Oper}{σ:St}{ks:L_ Fr}
def Qo0 (Inv:Array Bool->St->Prop)
  (step:∀D σ i o,D.size=ops.size->Qdx ops D->i∈Region.ready .any ops D->ops[i]? = some o->Inv D σ->∃σ',JK P C ops o σ σ'/\Inv (D.setIfInBounds i true) σ')
  (hord:QjR ops=true) (hend:∀D σ,D.size=ops.size->(∀i,i<ops.size->D[i]? = some true)->Inv D σ->∀a w,R C σ a w->up C Q .normal a w):
  ∀(fuel:Nat) (D:Array Bool) (a:Act) (w:World) (σ:St),((List.range ops.size).filter λi=>!(D[i]? == some true)).length<=fuel->D.size=ops.size->Qdx ops D->Inv D σ->R C σ a w->wpAnyIn C.F 0 P .any ops (up C Q) fuel D a w:=by
 intro fuel
 have allOf:∀{D:Array Bool},D.size=ops.size->Region.ready .any ops D=[]->∀i,i<ops.size->D[i]? = some true:=by
  intro D hs hr
  apply Classical.byContradiction
  intro h
  have hex:∃i,i<ops.size/\D[i]? ≠ some true:=by
   apply Classical.byContradiction
   intro h'
   exact h λi hi=>Classical.byContradiction λhn=>h' ⟨i,hi,hn⟩
  obtain⟨k,h1,h2,h3⟩:=Ql0 ops.size hex
  have:=Qm4 hord hs h1 h2 h3
  rw[hr]at this;cases this
 induction fuel with
 | zero=>
  intro D a w σ hf hs hd hI hR
  have hall:∀i,i<ops.size->D[i]? = some true:=λi hi=>by
   have:=HV.1 (Nat.le_zero.1 hf)
   rw[List.filter_eq_nil_iff]at this
   simpa using this i (An.2 hi)
  refine⟨?_,hend D σ hs hall hI a w hR⟩
  rw[List.eq_nil_iff_forall_not_mem]
  intro i hi
  obtain⟨o,ho,hl,_⟩:=(OK hs).1 hi
  rw[hall i (Fo.1 ho).1]at hl;cases hl
 | succ fuel ih=>
  intro D a w σ hf hs hd hI hR
  refine⟨λhr=>hend D σ hs (allOf hs hr) hI a w hR,λi hi=>?_⟩
  obtain⟨o,ho,hl,hdeps⟩:=(OK hs).1 hi
  obtain⟨σ',hos,hI'⟩:=step D σ i o hs hd hi ho hI
  have hin:i<D.size:=by rw[hs];exact(Fo.1 ho).1
  have next:∀a' w',R C σ' a' w'->wpAnyIn C.F 0 P .any ops (up C Q) fuel (D.setIfInBounds i true) a' w':=λa' w' hR'=>by
   refine ih _ a' w' σ' ?_ (by simpa using hs) (hd.set hs hi) hI' hR'
   have count:∀(l:L_ Nat),i∈l->(l.filter λj=>!((D.setIfInBounds i true)[j]? == some true)).length+1<=(l.filter λj=>!(D[j]? == some true)).length:=by
    intro l
    have le:∀(l:L_ Nat),(l.filter λj=>!((D.setIfInBounds i true)[j]? == some true)).length<=(l.filter λj=>!(D[j]? == some true)).length:=by
     intro l
     induction l with
     | nil=>simp
     | cons x l ihl=>
      by_cases e:i=x
      ·subst e
       rw[List.filter_cons_of_neg (by simp[QaP,hin]),List.filter_cons_of_pos (by rw[hl];simp)]
       simp;omega
      simp only[Nj,QlW e]
      split
      ·simpa using ihl
      exact ihl
    induction l with
    | nil=>intro h;cases h
    | cons x l ihl=>
     intro hm
     by_cases e:i=x
     ·subst e
      rw[List.filter_cons_of_neg (by simp[QaP,hin]),List.filter_cons_of_pos (by rw[hl];simp)]
      have:=le l
      simp;omega
     have hm':i∈l:=by
      rcases Yw.1 hm with h | h
      ·exact absurd h e
      exact h
     have:=ihl hm'
     simp only[Nj,QlW e]
     split
     ·simpa using this
     exact this
   have:=count (List.range ops.size) (An.2 (by rw[<-hs];exact hin))
   omega
  unfold wpOpIn
  simp only[ho]
  have:=hos a w hR (wpAnyIn C.F 0 P .any ops (up C Q) fuel (D.setIfInBounds i true)) (up C Q) next
  split
  ·rename_i hw;rw[if_pos hw]at this;exact this
  rename_i hw;rw[if_neg hw]at this;exact⟨λ_ _=>trivial,this⟩
def AK.regionInv {id:Nat}(Inv:Array Bool->St->Prop)(hmix:P.follows .mixedOrders=true)
  (step:∀D σ i o,D.size=ops.size->Qdx ops D->i∈Region.ready .any ops D->ops[i]? = some o->Inv D σ->∃σ',JK P C ops o σ σ'/\Inv (D.setIfInBounds i true) σ')
  (hord:QjR ops=true) (h0:Inv (Array.replicate ops.size false) σ) (hend:∀D σ',D.size=ops.size->(∀i,i<ops.size->D[i]? = some true)->Inv D σ'->AK P C Q (.x .normal) ks σ'):AK P C Q (.c (.region id ops true)) ks σ:=by
 intro a w hR
 refine wpIn_region_any hmix ?_
 have hR':R C σ a { w with drawn:=w.drawn+1 }:=by
  obtain⟨φ,hr⟩:=hR
  exact⟨φ,hr.step rfl rfl rfl (YY _) (λ_ _=>rfl)⟩
 refine Qo0 Inv step hord (λD σ' hs hall hI a w hR=>hend D σ' hs hall hI a w hR) ops.size (Array.replicate ops.size false) a _ σ ?_ (by simp) ?_ h0 hR'
 ·exact Yb (QeK _ _) (by simp)
 intro i o _ h
 simp[Array.getElem?_replicate]at h
end
inductive It where
 | add (x:DF) (fl nf:Bool)
 | tn (M:Yp)
def Xr : L_ It->L_ Yp
 | []=>[]
 | .add _ _ _::r=>Xr r
 | .tn M::r=>M::Xr r
def Pb (base:St):L_ Yp->St
 | []=>base
 | M::r=>Pb (M.run base) r
def QlR (x:DF)(M:Yp):Bool:=match x.ob with | none=>true | some ob=>M.keepsO x.d&&M.kills.all (λb=>ob.keep1 b)
def QlS (x:DF)(M:Yp):Bool:=M.keeps x.d x.v&&QlR x M
def alv (x:DF)(fl:Bool)(ms:L_ Yp):Bool:=ms.all (λM=>M.keeps x.d x.v)
def QaX (x:DF)(fl:Bool)(ms:L_ Yp):Bool:=ms.all (QlR x)
def Pc (σ:St)(x:DF)(fl:Bool)(ms:L_ Yp):Prop:=(alv x fl ms=true->look σ.fr x.d=some x.v)/\(QaX x fl ms=true->∀ob,x.ob=some ob->look σ.hp x.d=some ob)
def Ch (ops:Array Oper):Nat->Nat->Nat->Bool
 | 0,_,_=>false
 | n+1,i,k=>match ops[k]? with
  | some o=>Mn o i||o.after.toList.any λe=>Region.binds .any e&&Ch ops n i e.on
  | none=>false
def Qb7 (its:L_ It)(p:Nat):Bool:=match its[p]? with
 | some (.tn _)=>true
 | _=>false
def Qqj (ops:Array Oper)(its:L_ It):Bool:=(List.range its.length).all λi=>(List.range its.length).all λp=>!(Qb7 its p)||Nat.beq p i ||
 (match its[i]? with | some (.add _ true false)=>true | some _=>bif Nat.ble (p+1) i then Ch ops 8 p i else Ch ops 8 i p | none=>true)
def Vs : L_ It->L_ Nat
 | []=>[]
 | .add x _ _::r=>x.d::Vs r
 | .tn _::r=>Vs r
def IS : L_ Yp->L_ Nat
 | []=>[]
 | M::r=>match M.put with
  | some (d,_)=>d::IS r
  | none=>IS r
def Qmj : L_ Yp->L_ Nat
 | []=>[]
 | M::r=>M.sets.map Prod.fst++Qmj r
def Qb8 : L_ It->L_ Nat
 | []=>[]
 | .add x _ _::r=>match x.ob with
  | some _=>x.d::Qb8 r
  | none=>Qb8 r
 | .tn _::r=>Qb8 r
def IT (ms:L_ Yp):L_ It->Bool
 | []=>true
 | .add x fl _::r=>(!fl||ms.all (QlS x))&&IT ms r
 | .tn _::r=>IT ms r
def QdG (ms:L_ Yp)(S:St):Bool:=S.fr.all (λp=>ms.all λM=>M.keeps p.1 p.2)&&S.hp.all (λp=>ms.all λM=>M.keepsO p.1&&M.kills.all (λb=>p.2.keep1 b))
def Qmk (base:St)(its:L_ It):Bool:=Cw (Vs its)&&(Vs its).all (λd=>!(XK (keys base.fr) d)&&!(XK (IS (Xr its)) d)) &&
 (Qb8 its).all (λd=>!(XK (keys base.hp) d))
def Qn1 (ops:Array Oper)(its:L_ It):Bool:=(List.range its.length).all λi=>(List.range its.length).all λp=>match its[i]? with
 | some (.add x _ _)=>match its[p]? with
  | some (.tn M)=>x.ob.isNone||!(XK (M.sets.map Prod.fst) x.d)||Ch ops 8 i p
  | _=>true
 | _=>true
section
variable {P:Program}{C:Xx}{Q:Exit->St->Prop}{ops:Array Oper}{ks:L_ Fr}{base S:St}{its:L_ It}
def j0 (its:L_ It)(k:Nat):Nat:=(Xr (its.take k)).length
def Qbk (P:Program)(C:Xx)(ops:Array Oper)(base S:St)(its:L_ It)(i:Nat)(o:Oper):It->Prop
 | .add x fl h=>match fl&&!h with
  | false=>∀σ,Er σ (Pb base ((Xr its).take (j0 its i)))->(∀k y fl h,its[k]? = some (.add y fl h)->Mn o k=true->Pc σ y fl (((Xr its).take (j0 its i)).drop (j0 its k)))->(x.ob.isSome=true->look σ.hp x.d=none)->JK P C ops o σ (σ.addF x)
  | true=>∀σ,Er σ S->(∀k y h,its[k]? = some (.add y true h)->Mn o k=true->QbZ σ y)->(x.ob.isSome=true->look σ.hp x.d=none)->JK P C ops o σ (σ.addF x)
 | .tn M=>∀σ,Er σ (Pb base ((Xr its).take (j0 its i)))->(∀k y fl h,its[k]? = some (.add y fl h)->Mn o k=true->Pc σ y fl (((Xr its).take (j0 its i)).drop (j0 its k)))->JK P C ops o σ (M.run σ)
def Cx {D:Array Bool}(hd:Qdx ops D):∀(n:Nat) {i k:Nat},Ch ops n i k=true->D[k]? = some true->D[i]? = some true:=by
 intro n
 induction n with
 | zero=>intro i k h;cases h
 | succ n ih=>
  intro i k h hk
  rw[Ch]at h
  split at h
  ·rename_i o ho
   rw[KE]at h
   rcases h with h | h
   ·simp only[Mn,EB,QQ]at h
    obtain⟨e,he,hb,hon⟩:=h
    have:=hd k o ho hk e (Qgh.1 he) hb
    rwa[YM hon]at this
   simp only[EB,QQ]at h
   obtain⟨e,he,hb,hm⟩:=h
   exact ih hm (hd k o ho hk e (Qgh.1 he) hb)
  cases h
def Qf6 {D:Array Bool}(hs:D.size=ops.size)(hd:Qdx ops D){n i k:Nat}(h:Ch ops n i k=true)(hk:k∈Region.ready .any ops D):D[i]? = some true:=by
 obtain⟨o,ho,hl,hdeps⟩:=(OK hs).1 hk
 cases n with
 | zero=>cases h
 | succ n=>
  rw[Ch,ho]at h
  dsimp only at h
  rw[KE]at h
  rcases h with h | h
  ·simp only[Mn,EB,QQ]at h
   obtain⟨e,he,hb,hon⟩:=h
   have:=hdeps e (Qgh.1 he) hb
   rwa[YM hon]at this
  simp only[EB,QQ]at h
  obtain⟨e,he,hb,hm⟩:=h
  exact Cx hd n hm (hdeps e (Qgh.1 he) hb)
def AO : ∀{l m:L_ It},Xr (l++m)=Xr l++Xr m:=by
 intro l
 induction l with
 | nil=>intro m;rfl
 | cons x l h=>intro m;cases x<;>simp[Xr,h]
def Qie {ms h:L_ Yp}:∀{B:St},Pb B (ms++h)=Pb (Pb B ms) h:=by
 induction ms with
 | nil=>intro B;rfl
 | cons M ms D=>intro B;exact D
def Qn2 {its:L_ It}{i:Nat}{M:Yp}(h:its[i]? = some (.tn M)):(Xr its)[j0 its i]? = some M/\(Xr its).take (j0 its i+1)=(Xr its).take (j0 its i)++[M]:=by
 have D:=(Xj.1 h).1
 have e:its=its.take i++(.tn M::its.drop (i+1)):=by
  have:its.drop i=its[i]::its.drop (i+1):=Lt D
  have h2:its[i]=.tn M:=by have:=Qy D;rw[h]at this;exact(Option.some.inj this).symm
  rw[h2]at this
  rw[<-this,List.take_append_drop]
 have e2:Xr its=Xr (its.take i)++(M::Xr (its.drop (i+1))):=by
  conv=>lhs;rw[e]
  rw[AO];rfl
 unfold j0
 rw[e2]
 refine⟨by simp,?_⟩
 rw[List.take_append,List.take_append]
 simp[JR]
def Qn3 {σ:St}{x:DF}{M:Yp}(hk:QlS x M=true)(h:QbZ σ x):QbZ (M.run σ) x:=by
 unfold QlS QlR at hk
 rw[QQ]at hk
 refine⟨Yp.keeps_look hk.1 h.1,λob hob=>?_⟩
 rw[hob]at hk
 have D:=hk.2
 dsimp only at D
 rw[QQ]at D
 exact Yp.keepsO_look D.1 D.2 (h.2 ob hob)
def Pc.of {σ:St}{x:DF}{fl:Bool}{ms:L_ Yp}(h:QbZ σ x):Pc σ x fl ms:=⟨λ_=>h.1,λ_=>h.2⟩
def Pc.run {σ:St}{x:DF}{fl:Bool}{ms:L_ Yp}{M:Yp}(h:Pc σ x fl ms):Pc (M.run σ) x fl (ms++[M]):=by
 refine⟨λD=>?_,λD ob hob=>?_⟩
 ·simp only[alv,List.all_append,QQ,RY,List.all_nil,Tw]at D
  exact Yp.keeps_look D.2 (h.1 (by simp only[alv];exact D.1))
 simp only[QaX,List.all_append,QQ,RY,List.all_nil,Tw]at D
 have h1:=h.2 (by simp only[QaX];exact D.1) ob hob
 have hk:=D.2
 unfold QlR at hk
 rw[hob]at hk
 dsimp only at hk
 rw[QQ]at hk
 exact Yp.keepsO_look hk.1 hk.2 h1
def Qo1 {p:Nat}{M:Yp}(h:its[p]? = some (.tn M)):j0 its (p+1)=j0 its p+1:=by
 have D:=(Xj.1 h).1
 unfold j0
 rw[ED,h,AO];simp[Xr]
def Qif : ∀{a b:Nat},a<=b->j0 its a<=j0 its b:=by
 intro a b h
 unfold j0
 obtain⟨c,rfl⟩:=Nat.exists_eq_add_of_le h
 rw[List.take_add,AO];simp
def Qn4 {p i:Nat}{M:Yp}(h:its[p]? = some (.tn M))(D:p<i):j0 its p<j0 its i:=by
 have:=Qo1 h
 have:=Qif (its:=its) (show p+1<=i from D)
 omega
def QeQ : ∀{its:L_ It} {c:Nat},c<(Xr its).length->∃p M,its[p]? = some (.tn M)/\j0 its p=c:=by
 intro its
 induction its with
 | nil=>intro c h;simp[Xr]at h
 | cons it its ih=>
  intro c h
  cases it with
  | add x fl=>
   obtain⟨p,M,D,h2⟩:=ih (c:=c) h
   exact⟨p+1,M,by simpa using D,by simpa[j0,Xr] using h2⟩
  | tn M=>
   cases c with
   | zero=>exact⟨0,M,rfl,by simp[j0,Xr]⟩
   | succ c=>
    obtain⟨p,M',D,h2⟩:=ih (c:=c) (by simpa[Xr] using h)
    exact⟨p+1,M',by simpa using D,by simpa[j0,Xr] using h2⟩
def Qml {p:Nat}{M:Yp}(h:its[p]? = some (.tn M)):j0 its p<(Xr its).length:=(Xj.1 (Qn2 h).1).1
def Er.stable : ∀{ms:L_ Yp} {B S:St},QdG ms S=true->Er B S->∀n,Er (Pb B (ms.take n)) S:=by
 intro ms
 induction ms with
 | nil=>intro B S _ h n;simpa[Pb] using h
 | cons M ms ih=>
  intro B S D h n
  cases n with
  | zero=>exact h
  | succ n=>
   unfold QdG at D
   rw[QQ,XN,XN]at D
   refine ih (B:=M.run B) ?_ ⟨λt v hv=>?_,λp ob hob=>?_⟩ n
   ·unfold QdG
    rw[QQ,XN,XN]
    exact⟨λp hp=>by have:=D.1 p hp;rw[RY,QQ]at this;exact this.2,λp hp=>by have:=D.2 p hp;rw[RY,QQ]at this;exact this.2⟩
   ·have:=D.1 (t,v) (Jj hv)
    rw[RY,QQ]at this
    exact Yp.keeps_look this.1 (h.1 t v hv)
   have:=D.2 (p,ob) (Jj hob)
   rw[RY,QQ,QQ]at this
   exact Yp.keepsO_look this.1.1 this.1.2 (h.2 p ob hob)
def Qb9 : ∀{its:L_ It} {i:Nat} {x:DF} {fl nf:Bool},its[i]? = some (.add x fl nf)->x.d∈Vs its/\(x.ob.isSome=true->x.d∈Qb8 its):=by
 intro its
 induction its with
 | nil=>intro i x fl nf h;simp at h
 | cons it its ih=>
  intro i x fl nf h
  cases i with
  | zero=>
   simp at h;subst h
   refine⟨XY,λD=>?_⟩
   rw[Qb8];split
   ·exact XY
   rename_i he;rw[he]at D;cases D
  | succ i=>
   obtain⟨a,b⟩:=ih (i:=i) (by simpa using h)
   cases it with
   | add y fl' nf'=>
    refine⟨Yo _ a,λD=>?_⟩
    rw[Qb8];split
    ·exact Yo _ (b D)
    exact b D
   | tn M=>exact⟨a,b⟩
def Qgl : ∀{its:L_ It},(Vs its).Nodup->∀{i k:Nat} {x y:DF} {fl D nf nf':Bool},its[i]? = some (.add x fl nf)->its[k]? = some (.add y D nf')->x.d=y.d->i=k:=by
 intro its
 induction its with
 | nil=>intro _ i k x y fl D nf nf' h;simp at h
 | cons it its ih=>
  intro hn i k x y fl D nf nf' hi hk e
  cases it with
  | tn M=>
   cases i with
   | zero=>simp at hi
   | succ i=>cases k with
    | zero=>simp at hk
    | succ k=>rw[ih hn (i:=i) (k:=k) (by simpa using hi) (by simpa using hk) e]
  | add z f g=>
   rw[Vs,Nn]at hn
   cases i with
   | zero=>
    cases k with
    | zero=>rfl
    | succ k=>
     simp at hi;obtain⟨rfl,rfl,rfl⟩:=hi
     exact absurd (by rw[e];exact(Qb9 (i:=k) (by simpa using hk)).1) hn.1
   | succ i=>
    cases k with
    | zero=>
     simp at hk;obtain⟨rfl,rfl,rfl⟩:=hk
     exact absurd (by rw[<-e];exact(Qb9 (i:=i) (by simpa using hi)).1) hn.1
    | succ k=>rw[ih hn.2 (i:=i) (k:=k) (by simpa using hi) (by simpa using hk) e]
def Qqk {M:Yp}{B:St}{t:Nat}{v:V}(h:look (M.run B).fr t=some v):(∃u,look B.fr t=some u)\/∃u,M.put=some (t,u):=by
 have kill:∀{l:L_ Nat} {B:St} {v:V},look (B.killL l).fr t=some v->∃u,look B.fr t=some u:=by
  intro l
  induction l with
  | nil=>intro B v h;exact⟨v,h⟩
  | cons b l ih=>
   intro B v h
   obtain⟨u,D⟩:=ih h
   have D:look (Hg b B.fr) t=some u:=D
   rw[Ru]at D
   obtain⟨w,hw,_⟩:=XW.1 D
   exact⟨w,hw⟩
 unfold Yp.run at h
 split at h
 ·rw[QjU]at h;exact .inl (kill h)
 rename_i d u hp
 by_cases e:d=t
 ·subst e;exact .inr ⟨u,hp⟩
 have h:look ((d,u)::((B.killL M.kills).sets M.sets).fr) t=some v:=h
 rw[QA _ _ e,QjU]at h;exact .inl (kill h)
def Qo2 {M:Yp}{B:St}{p:Nat}{ob:Ob}(h:look (M.run B).hp p=some ob):(∃u,look B.hp p=some u)\/p∈M.sets.map Prod.fst:=by
 have kill:∀{l:L_ Nat} {B:St} {ob:Ob},look (B.killL l).hp p=some ob->∃u,look B.hp p=some u:=by
  intro l
  induction l with
  | nil=>intro B ob h;exact⟨ob,h⟩
  | cons b l ih=>
   intro B ob h
   obtain⟨u,D⟩:=ih h
   have D:look (Ud b B.hp) p=some u:=D
   rw[LB]at D
   split at D
   ·cases D
   obtain⟨w,hw,_⟩:=XW.1 D
   exact⟨w,hw⟩
 have sets:∀{l:H_} {B:St} {ob:Ob},look (B.sets l).hp p=some ob->(∃u,look B.hp p=some u)\/p∈l.map Prod.fst:=by
  intro l
  induction l with
  | nil=>intro B ob h;exact .inl ⟨ob,h⟩
  | cons q l ih=>
   intro B ob h
   by_cases e:q.1=p
   ·exact .inr (by rw[Ul,e];exact XY)
   have h:look ((B.sets l).set q.1 q.2).hp p=some ob:=h
   rw[St.look_set_other _ _ e]at h
   exact(ih h).imp id (Yo _)
 have h1:look ((B.killL M.kills).sets M.sets).hp p=some ob:=by
  unfold Yp.run at h
  split at h<;>exact h
 rcases sets h1 with⟨u,D⟩|h2
 ·exact .inl (kill D)
 exact .inr h2
def Qql : ∀{ms:L_ Yp} {B:St} {t:Nat} {v:V},look (Pb B ms).fr t=some v->(∃u,look B.fr t=some u)\/t∈IS ms:=by
 intro ms
 induction ms with
 | nil=>intro B t v h;exact .inl ⟨v,h⟩
 | cons M ms ih=>
  intro B t v h
  rcases ih h with⟨u,D⟩|h
  ·rcases Qqk D with h | ⟨u,hp⟩
   ·exact .inl h
   refine .inr ?_;rw[IS,hp];exact XY
  refine .inr ?_;rw[IS];split
  ·exact Yo _ h
  exact h
def Qo3 : ∀{ms:L_ Yp} {B:St} {p:Nat} {ob:Ob},look (Pb B ms).hp p=some ob->(∃u,look B.hp p=some u)\/p∈Qmj ms:=by
 intro ms
 induction ms with
 | nil=>intro B p ob h;exact .inl ⟨ob,h⟩
 | cons M ms ih=>
  intro B p ob h
  rcases ih h with⟨u,D⟩|h
  ·rcases Qo2 D with h | h
   ·exact .inl h
   exact .inr (QbR _ h)
  exact .inr (QhY _ h)
def Qm8 : ∀{ms:L_ Yp} {n t:Nat},t∈IS (ms.take n)->t∈IS ms:=by
 intro ms
 induction ms with
 | nil=>intro n t h;simpa using h
 | cons M ms D=>
  intro n t h
  cases n with
  | zero=>simp[IS]at h
  | succ n=>
   rw[List.take_succ_cons,IS]at h
   rw[IS]
   split at h
   ·rcases Yw.1 h with rfl | h
    ·exact XY
    exact Yo _ (D h)
   exact D h
def Qte (base:St)(its:L_ It)(h:Array Bool)(σ:St):Prop:=∃j,j<=(Xr its).length/\(∀p M,its[p]? = some (.tn M)->(h[p]? = some true↔j0 its p<j))/\Er σ (Pb base ((Xr its).take j))/\
 ∀i x fl D,its[i]? = some (.add x fl D)->(h[i]? = some true->Pc σ x fl (((Xr its).take j).drop (j0 its i)))/\(h[i]? ≠ some true->x.ob.isSome=true->look σ.hp x.d=none)/\(fl=true->h[i]? = some true->IT (Xr its) its=true\/j<(Xr its).length->QbZ σ x)
def QrO (ops:Array Oper)(its:L_ It):Bool:=Qb7 its (its.length-1)&&(List.range (its.length-1)).all λi=>Ch ops 8 i (its.length-1)
def QjW (ops:Array Oper)(ms:L_ Yp)(its:L_ It):Bool:=IT ms its||(IT (ms.take (ms.length-1)) its&&QrO ops its)
def Qqm (its:L_ It)(i:Nat):Bool:=match its[i]? with
 | some (.add _ true false)=>true
 | _=>false
def QrP (ops:Array Oper)(its:L_ It)(p:Nat):Bool:=Qb7 its p&&Nat.beq (j0 its p+1) (Xr its).length&&(List.range its.length).all λi=>!Qqm its i||Ch ops 8 i p
def QjX (ops:Array Oper)(its:L_ It)(ms:L_ Yp)(S:St):Bool:=QdG ms S||(QdG (ms.take (ms.length-1)) S&&(List.range its.length).any (QrP ops its))
def AK.drawV {id:Nat}(hmix:P.follows .mixedOrders=true)(hlen:its.length=ops.size)(hord:QjR ops=true)(hov:Qqj ops its=true)(hap:Qmk base its=true)(hsv:Qn1 ops its=true)(hfk:QjW ops (Xr its) its=true)(hsk:QjX ops its (Xr its) S=true)(hS:Er base S)
  (steps:∀i o it,ops[i]? = some o->its[i]? = some it->Qbk P C ops base S its i o it)
  (k:∀σ,Er σ (Pb base (Xr its))->(∀i x fl nf,its[i]? = some (.add x fl nf)->Pc σ x fl ((Xr its).drop (j0 its i)))->AK P C Q (.x .normal) ks σ):AK P C Q (.c (.region id ops true)) ks base:=by
 simp only[Qmk,QQ,XN,Am]at hap
 obtain⟨⟨hnd,hd1⟩,hd2⟩:=hap
 have hnd:=DX.1 hnd
 have ord:∀i p it M,its[i]? = some it->its[p]? = some (.tn M)->p≠i->(∀x,it≠.add x true false)->(p<i->Ch ops 8 p i=true)/\(i<p->Ch ops 8 i p=true):=by
  intro i p it M hi hp hne hnf
  have hil:=(Xj.1 hi).1
  have hpl:=(Xj.1 hp).1
  unfold Qqj at hov
  rw[XN]at hov
  have h1:=hov i (An.2 hil)
  rw[XN]at h1
  have h2:=h1 p (An.2 hpl)
  have hm:Qb7 its p=true:=by unfold Qb7;rw[hp]
  have hb:Nat.beq p i=false:=by cases hb:Nat.beq p i with
   | true=>exact absurd (YM hb) hne
   | false=>rfl
  rw[hm,hb,hi]at h2
  simp only[GE,Tz]at h2
  have h3:(bif Nat.ble (p+1) i then Ch ops 8 p i else Ch ops 8 i p)=true:=by
   cases it with
   | add x fl nf=>cases fl with
    | true=>cases nf with
     | false=>exact absurd rfl (hnf x)
     | true=>exact h2
    | false=>exact h2
   | tn M=>exact h2
  refine⟨λh=>?_,λh=>?_⟩
  ·rw[show Nat.ble (p+1) i=true from ZR h]at h3;exact h3
  have:Nat.ble (p+1) i=false:=by cases hc:Nat.ble (p+1) i with
   | true=>have:=Ke hc;omega
   | false=>rfl
  rw[this]at h3;exact h3
 have sets:∀(i p:Nat) (x:DF) (fl nf:Bool) (M:Yp),its[i]? = some (.add x fl nf)->its[p]? = some (.tn M)->x.ob.isSome=true->x.d∈M.sets.map Prod.fst->Ch ops 8 i p=true:=by
  intro i p x fl nf M hi hp hob hmem
  have hil:=(Xj.1 hi).1
  have hpl:=(Xj.1 hp).1
  unfold Qn1 at hsv
  rw[XN]at hsv
  have h1:=hsv i (An.2 hil)
  rw[XN]at h1
  have h2:=h1 p (An.2 hpl)
  rw[hi,hp]at h2
  dsimp only at h2
  rw[IQ.2 hmem]at h2
  have:x.ob.isNone=false:=by cases hx:x.ob with
   | none=>rw[hx]at hob;cases hob
   | some=>rfl
  rw[this]at h2
  simpa using h2
 have memSets:∀{ms:L_ Yp} {d:Nat},d∈Qmj ms->∃(c:Nat) (M:Yp),ms[c]? = some M/\d∈M.sets.map Prod.fst:=by
  intro ms
  induction ms with
  | nil=>intro d h;cases h
  | cons N ms ih=>
   intro d h
   rcases YD.1 h with h | h
   ·exact⟨0,N,rfl,h⟩
   obtain⟨c,M,h1,h2⟩:=ih h;exact⟨c+1,M,by simpa using h1,h2⟩
 have all:∀{l:L_ It} {ms:L_ Yp},IT ms l=true->∀{q:Nat} {y:DF} {nf:Bool},l[q]? = some (.add y true nf)->ms.all (QlS y)=true:=by
  intro l
  induction l with
  | nil=>intro ms _ q y nf h;simp at h
  | cons it l ih=>
   intro ms h q y nf hq
   cases it with
   | add z f g=>
    rw[IT,QQ]at h
    cases q with
    | zero=>simp at hq;obtain⟨rfl,rfl,rfl⟩:=hq;simpa using h.1
    | succ q=>exact ih h.2 (by simpa using hq)
   | tn M=>
    cases q with
    | zero=>simp at hq
    | succ q=>exact ih h (by simpa using hq)
 have lst:IT (Xr its) its=true\/(IT ((Xr its).take ((Xr its).length-1)) its=true/\(∃M,its[its.length-1]? = some (.tn M)/\j0 its (its.length-1)+1=(Xr its).length)/\∀i,i<its.length-1->Ch ops 8 i (its.length-1)=true):=by
  unfold QjW at hfk
  rw[KE,QQ]at hfk
  refine hfk.imp_right λh=>⟨h.1,?_⟩
  have h2:=h.2
  unfold QrO at h2
  rw[QQ,XN]at h2
  obtain⟨p1,p2⟩:=h2
  refine⟨?_,λi hi=>p2 i (An.2 hi)⟩
  unfold Qb7 at p1
  split at p1
  ·rename_i M hM
   refine⟨M,hM,?_⟩
   have h3:=Qo1 hM
   have hl:=(Xj.1 hM).1
   have h4:j0 its its.length=(Xr its).length:=by unfold j0;rw[HY]
   rw[show its.length-1+1=its.length by omega]at h3
   omega
  cases p1
 refine AK.regionInv (Qte base its) hmix ?_ hord ?_ ?_
 ·intro D σ i o hs hd hi ho ⟨j,hj,hmu,hsub,hadd⟩
  obtain⟨o',ho',hl,hdeps⟩:=(OK hs).1 hi
  rw[ho]at ho';cases ho'
  have hio:i<ops.size:=(Fo.1 ho).1
  have hil:i<its.length:=by omega
  have hin:i<D.size:=by omega
  obtain⟨it,hit⟩:∃it,its[i]? = some it:=⟨_,Qy hil⟩
  have hnl:D[i]? ≠ some true:=by rw[hl];simp
  have hst:=steps i o it ho hit
  have depsL:∀{q:Nat},Mn o q=true->D[q]? = some true:=λhdep=>by
   simp only[Mn,EB,QQ]at hdep
   obtain⟨e,he,hb,hon⟩:=hdep
   have:=hdeps e (Qgh.1 he) hb
   rwa[YM hon]at this
  have stage:(∀x,it≠.add x true false)->j=j0 its i:=by
   intro hnf
   apply Nat.le_antisymm
   ·rcases WO (j0 its i) j with hlt | h
    ·obtain⟨p,M,hp,hpj⟩:=QeQ (its:=its) (c:=j0 its i) (by omega)
     have hpl:D[p]? = some true:=(hmu p M hp).2 (by omega)
     rcases Nat.lt_trichotomy p i with h | h | h
     ·have:=Qn4 hp h;omega
     ·subst h;exact absurd hpl hnl
     have hm:=(ord i p it M hit hp (by omega) hnf).2 h
     exact absurd (Cx hd 8 hm hpl) hnl
    exact h
   rcases Nat.eq_zero_or_pos (j0 its i)with h | h
   ·omega
   have hle:j0 its i<=(Xr its).length:=by
    have h1:=Qif (its:=its) (show i<=its.length by omega)
    have h2:j0 its its.length=(Xr its).length:=by unfold j0;rw[HY]
    omega
   obtain⟨p,M,hp,hpj⟩:=QeQ (its:=its) (c:=j0 its i-1) (by omega)
   have hpi:p<i:=by
    rcases Nat.lt_trichotomy p i with h' | h' | h'
    ·exact h'
    ·subst h';omega
    have:=Qif (its:=its) (Nat.le_of_lt h');omega
   have hm:=(ord i p it M hit hp (by omega) hnf).1 hpi
   have:=(hmu p M hp).1 (Qf6 hs hd hm hi)
   omega
  have setL:∀q,(D.setIfInBounds i true)[q]? = some true↔q=i\/D[q]? = some true:=λq=>by
   by_cases e:i=q
   ·subst e;simp[QaP,hin]
   rw[QlW e];simp[Ne.symm e]
  cases it with
  | tn M=>
   have hjj:=stage λx e=>by cases e
   subst hjj
   have hM:=Qn2 hit
   have hos:JK P C ops o σ (M.run σ):=hst σ hsub λq y fl nf hq hdep=>(hadd q y fl nf hq).1 (depsL hdep)
   have flt:∀{q:Nat} {y:DF} {fl nf:Bool},fl=true->D[q]? = some true->its[q]? = some (.add y fl nf)->IT (Xr its) its=true\/j0 its i+1<(Xr its).length->QbZ (M.run σ) y:=by
    intro q y fl nf hfl hql hq hz
    subst hfl
    have h1:=(hadd q y true nf hq).2.2 rfl hql (hz.imp_right λh=>by omega)
    refine Qn3 ?_ h1
    rcases lst with h | ⟨h,_,_⟩
    ·exact XN.1 (all h hq) M (XH hM.1)
    rcases hz with hz | hz
    ·exact XN.1 (all hz hq) M (XH hM.1)
    refine XN.1 (all h hq) M (XH (i:=j0 its i) ?_)
    rw[List.getElem?_take_of_lt (by omega)];exact hM.1
   refine⟨_,hos,j0 its i+1,by have:=Qml hit;omega,λp M' hp=>?_,?_,λq y fl nf hq=>⟨λhql=>?_,λhql hob=>?_,λhfl hql hz=>?_⟩⟩
   ·rw[setL]
    constructor
    ·rintro (rfl | h)
     ·omega
     have:=(hmu p M' hp).1 h;omega
    intro h
    rcases WO (j0 its p) (j0 its i)with h1 | h1
    ·exact .inr ((hmu p M' hp).2 h1)
    left
    rcases Nat.lt_trichotomy p i with h' | h' | h'
    ·have:=Qn4 hp h';omega
    ·exact h'
    have:=Qn4 hit h';omega
   ·rw[hM.2,Qie];exact hsub.run M
   ·rcases(setL q).1 hql with rfl | hql
    ·rw[hit]at hq;cases hq
    rcases WO (j0 its i) (j0 its q)with hlt | hle
    ·cases fl with
     | true=>
      refine Pc.of (flt rfl hql hq ?_)
      rcases lst with h | ⟨_,⟨M',hp,hpj⟩,_⟩
      ·exact .inl h
      right
      have hqi:q<=its.length-1:=by have:=(Xj.1 hq).1;omega
      have:=Qif (its:=its) hqi
      omega
     | false=>
      exfalso
      have hiq:i<q:=by
       rcases WO i q with h | h
       ·exact h
       have:=Qif (its:=its) h;omega
      have hm:=(ord q i _ M hq hit (by omega) (λx e=>by cases e)).1 hiq
      exact absurd (Cx hd 8 hm hql) hnl
    rw[hM.2,List.drop_append_of_le_length (by simp;have:=Qml hit;omega)]
    exact((hadd q y fl nf hq).1 hql).run
   ·have hqi:q≠i:=λe=>by subst e;rw[hit]at hq;cases hq
    have hql':D[q]? ≠ some true:=λh=>hql ((setL q).2 (.inr h))
    refine Yp.none_look ?_ ((hadd q y fl nf hq).2.1 hql' hob)
    rw[XN]
    intro r hr
    cases hb:Nat.beq r.1 y.d with
    | false=>rfl
    | true=>
     have hm:=sets q i y fl nf M hq hit hob (by rw[<-YM hb];exact List.mem_map_of_mem hr)
     exact absurd (Qf6 hs hd hm hi) hql'
   refine flt hfl ((setL q).1 hql |>.resolve_left λe=>by subst e;rw[hit]at hq;cases hq) hq hz
  | add x fl nf=>
   have hfresh:x.ob.isSome=true->look σ.hp x.d=none:=(hadd i x fl nf hit).2.1 hnl
   have hos:JK P C ops o σ (σ.addF x):=by
    have hB:¬(fl=true/\nf=false)->(∀σ,Er σ (Pb base ((Xr its).take (j0 its i)))->(∀k y fl nf,its[k]? = some (.add y fl nf)->Mn o k=true->Pc σ y fl (((Xr its).take (j0 its i)).drop (j0 its k)))->(x.ob.isSome=true->look σ.hp x.d=none)->JK P C ops o σ (σ.addF x))->JK P C ops o σ (σ.addF x):=λhne hst=>by
     have hjj:=stage λy e=>by cases e;exact hne ⟨rfl,rfl⟩
     subst hjj
     exact hst σ hsub (λq y fl nf hq hdep=>(hadd q y fl nf hq).1 (depsL hdep)) hfresh
    cases fl with
    | true=>cases nf with
     | false=>
      have h1:Er base S:=hS
      have hZ:IT (Xr its) its=true\/j<(Xr its).length:=by
       refine lst.imp_right λ⟨_,⟨M,hp,hpj⟩,hall⟩=>?_
       rcases WO j (Xr its).length with h | h
       ·exact h
       exfalso
       have hpl:=(hmu _ M hp).2 (by omega)
       have hne:i≠its.length-1:=λe=>by rw[<-e,hit]at hp;cases hp
       exact absurd (Cx hd 8 (hall i (by omega)) hpl) hnl
      have h2:Er (Pb base ((Xr its).take j)) S:=by
       unfold QjX at hsk
       rw[KE]at hsk
       rcases hsk with hsk | hsk
       ·exact Er.stable hsk h1 j
       rw[QQ,EB]at hsk
       obtain⟨hs1,p,_,hp⟩:=hsk
       unfold QrP at hp
       simp only[QQ]at hp
       obtain⟨⟨p1,p2⟩,p3⟩:=hp
       have hjm:j<=(Xr its).length-1:=by
        rcases WO ((Xr its).length-1) j with hlt | h
        ·exfalso
         obtain⟨M,hM⟩:∃M,its[p]? = some (.tn M):=by
          unfold Qb7 at p1
          split at p1
          ·exact⟨_,‹_›⟩
          cases p1
         have p2:=YM p2
         have hpl:=(hmu p M hM).2 (by omega)
         have h3:=XN.1 p3 i (An.2 hil)
         have hf:Qqm its i=true:=by unfold Qqm;rw[hit]
         rw[hf]at h3
         exact absurd (Cx hd 8 h3 hpl) hnl
        exact h
       have h4:=Er.stable hs1 h1 j
       rwa[List.take_take,MP hjm]at h4
      exact hst σ ⟨λt v h=>hsub.1 t v (h2.1 t v h),λp ob h=>hsub.2 p ob (h2.2 p ob h)⟩ (λq y nf hq hdep=>(hadd q y true nf hq).2.2 rfl (depsL hdep) hZ) hfresh
     | true=>exact hB (λe=>by cases e.2) hst
    | false=>exact hB (λe=>by cases e.1) hst
   obtain⟨hmd,hmo⟩:=Qb9 hit
   have frK:∀t v,t≠x.d->look σ.fr t=some v->look (σ.addF x).fr t=some v:=by
    intro t v hne h
    unfold St.addF
    split
    ·show look ((x.d,x.v)::σ.fr) t=some v
     rw[QA _ _ (Ne.symm hne)];exact h
    show look ((x.d,x.v)::σ.fr) t=some v
    rw[QA _ _ (Ne.symm hne)];exact h
   have hpK:∀p,(p≠x.d\/x.ob=none)->look (σ.addF x).hp p=look σ.hp p:=by
    intro p hne
    unfold St.addF
    split
    ·rfl
    rename_i ob hob
    rcases hne with hne | hne
    ·exact σ.look_set_other _ (Ne.symm hne)
    rw[hob]at hne;cases hne
   refine⟨_,hos,j,hj,λp M hp=>?_,⟨λt v h=>?_,λp ob h=>?_⟩,λq y fl' nf' hq=>⟨λhql=>?_,λhql hob=>?_,λhfl hql hz=>?_⟩⟩
   ·rw[setL,<-hmu p M hp]
    have:p≠i:=λe=>by subst e;rw[hit]at hp;cases hp
    simp[this]
   ·refine frK t v (λe=>?_) (hsub.1 t v h)
    subst e
    have h1:=hd1 _ hmd
    rcases Qql h with⟨u,hu⟩|h2
    ·rw[Vj hu]at h1;cases h1.1
    rw[IQ.2 (Qm8 h2)]at h1;cases h1.2
   ·have hne:p≠x.d\/x.ob=none:=by
     cases hob:x.ob with
     | none=>exact .inr rfl
     | some ob'=>
      refine .inl λe=>?_
      subst e
      have hob':x.ob.isSome=true:=by rw[hob];rfl
      have h1:=hd2 _ (hmo hob')
      rcases Qo3 h with⟨u,hu⟩|h2
      ·rw[Vj hu]at h1;cases h1
      obtain⟨c,M,h3,h4⟩:=memSets h2
      have hc:c<j:=by
       have:=(Xj.1 h3).1
       simp at this;omega
      have h3':(Xr its)[c]? = some M:=by rw[List.getElem?_take_of_lt hc]at h3;exact h3
      obtain⟨p',M',hp',hpc⟩:=QeQ (its:=its) (c:=c) (Xj.1 h3').1
      have h5:=(Qn2 hp').1
      rw[hpc,h3']at h5;cases h5
      have hm:=sets i p' x fl nf M hit hp' hob' h4
      exact absurd (Cx hd 8 hm ((hmu p' M hp').2 (by omega))) hnl
    rw[hpK p hne];exact hsub.2 p ob h
   ·by_cases e:q=i
    ·subst e
     rw[hit]at hq;cases hq
     refine Pc.of ⟨?_,λob hob=>?_⟩
     ·unfold St.addF
      split<;>exact QH _ _ _
     unfold St.addF
     rw[hob];exact QH _ _ _
    have hql':D[q]? = some true:=((setL q).1 hql).resolve_left e
    obtain⟨h1,h2⟩:=(hadd q y fl' nf' hq).1 hql'
    have hne:y.d≠x.d:=λh=>e (Qgl hnd hq hit h)
    exact⟨λhal=>frK _ _ hne (h1 hal),λhal ob hob=>by rw[hpK _ (.inl hne)];exact h2 hal ob hob⟩
   ·have e:q≠i:=λe=>hql ((setL q).2 (.inl e))
    have hql':D[q]? ≠ some true:=λh=>hql ((setL q).2 (.inr h))
    have hne:y.d≠x.d:=λh=>e (Qgl hnd hq hit h)
    rw[hpK _ (.inl hne)];exact(hadd q y fl' nf' hq).2.1 hql' hob
   by_cases e:q=i
   ·subst e
    rw[hit]at hq;cases hq
    refine⟨?_,λob hob=>?_⟩
    ·unfold St.addF
     split<;>exact QH _ _ _
    unfold St.addF
    rw[hob];exact QH _ _ _
   have hql':D[q]? = some true:=((setL q).1 hql).resolve_left e
   obtain⟨h1,h2⟩:=(hadd q y fl' nf' hq).2.2 hfl hql' hz
   have hne:y.d≠x.d:=λh=>e (Qgl hnd hq hit h)
   exact⟨frK _ _ hne h1,λob hob=>by rw[hpK _ (.inl hne)];exact h2 ob hob⟩
 ·refine⟨0,He _,λp M _=>by simp[Array.getElem?_replicate],⟨λ_ _ h=>h,λ_ _ h=>h⟩,λi x fl nf hi=>⟨λh=>by simp[Array.getElem?_replicate]at h,λ_ hob=>?_,λ_ h=>by simp[Array.getElem?_replicate]at h⟩⟩
  have h1:=hd2 _ ((Qb9 hi).2 hob)
  cases h:look base.hp x.d with
  | none=>rfl
  | some ob=>rw[Vj h]at h1;cases h1
 intro D σ hs hall ⟨j,hj,hmu,hsub,hadd⟩
 have hjt:j=(Xr its).length:=by
  rcases WO j (Xr its).length with h | h
  ·obtain⟨p,M,hp,hpj⟩:=QeQ (its:=its) h
   have:=(hmu p M hp).1 (hall p (by have:=(Xj.1 hp).1;omega))
   omega
  omega
 subst hjt
 rw[HY]at hsub
 refine k σ hsub λi x fl nf hi=>?_
 have:=(hadd i x fl nf hi).1 (hall i (by have:=(Xj.1 hi).1;omega))
 rwa[HY]at this
end
inductive MD where
 | s
 | st (r:List V) (rs:List (List V))
 | app (rs:List (List V)) (m:Nat)
 | any (M:Yp)
 | cm (en:Ent) (M N:List (Nat×Nat)) (dead:List Nat) (ms:List Mode) (outs:List (Nat×Ob)) (r:V) (same:List Nat)
inductive Dw where
 | a (h:Wm) (sv:Option (List (Option Nat)×V)) (fl:Bool) (nf:Bool:=false)
 | m (md:MD)
def Qqn (P:Program)(T:EF)(f:Operand->O_ V)(hp:Nat->O_ Ob)(c:Call):Ent->O_ (Nat×L_ V×Prop)
 | .fn=>match c.callee with
  | .value (.func g)=>bif XK T.en g then match ZV f c.args.toList with
   | some vs=>some (g,vs,True)
   | none=>none
   else none
  | _=>none
 | .clo=>match c.callee with
  | .value x=>match f x with
   | some (.clo (.func g) fs h)=>bif XK T.en g then match ZV f c.args.toList with
    | some vs=>some (g,fs++(vs++h),True)
    | none=>none
    else none
   | _=>none
  | _=>none
 | .me g=>match c.callee with
  | .invoke x name=>match f x with
   | some (.ifc t u)=>bif XK T.en g then match ZV f c.args.toList with
    | some vs=>some (g,u::vs,(OY P t name=some (g,true)/\Ql2 P t=true)\/(OY P t name=some (g,false)/\QdA P t=true))
    | none=>none
    else none
   | _=>none
  | _=>none
 | .mv g e=>match c.callee with
  | .invoke x name=>match f x with
   | some (.ifc t (.loc b 0 off))=>match hp b with
    | some (.var h)=>match h[off]? with
     | some r=>bif XK T.en g then match ZV f c.args.toList with
      | some vs=>some (g,r::vs,OY P t name=some (g,false)/\Qh9 P t e=true/\BR P e=some false)
      | none=>none
      else none
     | none=>none
    | _=>none
   | _=>none
  | _=>none
def Qn5 {P:Program}{C:Xx}{T:EF}{f:Operand->O_ V}{hp:Nat->O_ Ob}{o:Oper}{c:Call}{en:Ent}{g:Nat}{vs:L_ V}{ψ:Prop}{σ:St}(ok:DH P T)(ho:o.op=.call c)(e:Qqn P T f hp c en=some (g,vs,ψ))(hφ:ψ)
  (h1:∀x u,f x=some u->σ.opd x=some u) (h2:∀b u,hp b=some u->look σ.hp b=some u):Jk P C o σ g vs:=by
 obtain⟨ce,ags,ts⟩:=c
 unfold Qqn at e
 split at e
 ·split at e
  ·rename_i f' h
   dsimp only at h;subst h
   replace e:=XX e;obtain⟨D,e⟩:=e
   split at e
   ·rename_i vs' hv;cases e;exact Jk.fn ho (ok.en D) (UU h1 hv)
   cases e
  cases e
 ·split at e
  ·rename_i x h
   dsimp only at h;subst h
   split at e
   ·rename_i f' fs cs hx
    replace e:=XX e;obtain⟨D,e⟩:=e
    split at e
    ·rename_i vs' hv;cases e;exact Jk.clo ho (h1 _ _ hx) (ok.en D) (UU h1 hv)
    cases e
   cases e
  cases e
 ·split at e
  ·rename_i x name h
   dsimp only at h;subst h
   split at e
   ·rename_i t u hx
    replace e:=XX e;obtain⟨D,e⟩:=e
    split at e
    ·rename_i vs' hv;cases e;exact Jk.meth (r:=u) ho (h1 _ _ hx) hφ (ok.en D) (UU h1 hv)
    cases e
   cases e
  cases e
 split at e
 ·rename_i x name h
  dsimp only at h;subst h
  split at e
  ·rename_i t b off hx
   split at e
   ·rename_i cs hb
    split at e
    ·rename_i r hr0
     replace e:=XX e;obtain⟨D,e⟩:=e
     split at e
     ·rename_i vs' hv;cases e;exact Jk.methV ho (h1 _ _ hx) hφ.1 hφ.2.1 hφ.2.2 (h2 _ _ hb) hr0 (ok.en D) (UU h1 hv)
     cases e
    cases e
   cases e
  cases e
 cases e
def Qo4 {bk:Nat->O_ Nat}{hp hp':Nat->O_ Ob}(h:∀b u,hp b=some u->hp' b=some u):∀{M:L_ (Nat×Nat)} {l:H_},HF bk hp M=some l->HF bk hp' M=some l:=by
 intro M
 induction M with
 | nil=>intro l e;exact e
 | cons p M ih=>
  obtain⟨d,s⟩:=p
  intro l e
  rw[HF]at e ⊢
  split at e
  ·rename_i ob hob
   split at e
   ·rename_i ob' D
    split at e
    ·rename_i l' hl
     simp only[h _ _ hob,D,ih hl];exact e
    cases e
   cases e
  cases e
def Qn6 {σ:St}{M N:L_ (Nat×Nat)}{dead:L_ Nat}{outs:H_}(h:GI ⟨[],N.map λp=>(p.1,Ob.itr0)⟩ M N dead outs=true):GI σ M N dead outs=true:=by
 simp only[GI,QQ,XN]at h ⊢
 obtain⟨⟨h1,h2⟩,D⟩:=h
 refine⟨⟨h1,h2⟩,λp hp=>⟨⟨?_,(D p hp).1.2⟩,(D p hp).2⟩⟩
 have hn:∀{l:L_ (Nat×Nat)},p∈l->(look (l.map λp=>(p.1,Ob.itr0)) p.1).isNone=false:=by
  intro l hp
  induction l with
  | nil=>cases hp
  | cons q l ih=>
   show(look ((q.1,Ob.itr0)::l.map λp=>(p.1,Ob.itr0)) p.1).isNone=false
   by_cases e:q.1=p.1
   ·rw[e,QH];rfl
   rw[QA _ _ e]
   refine ih ?_
   rcases Yw.1 hp with h | h
   ·exact absurd (congrArg Prod.fst h).symm e
   exact h
 have h4:=(D p hp).1.1
 rw[hn hp,ZP]at h4
 rw[h4];rfl
def Qca {σ:St}(dead:L_ Nat):∀(l:H_),(σ.killL dead).sets l=σ.after dead l:=by
 intro l
 induction l with
 | nil=>rfl
 | cons p l h=>rw[St.sets,h];rfl
def Qn7 (hp:Nat->O_ Ob)(h:H_):L_ Nat->Prop
 | []=>True
 | b::r=>hp b=look h b/\Qn7 hp h r
def Qo5 {hp:Nat->O_ Ob}{D:H_}:∀{l:L_ Nat},Qn7 hp D l->∀b,XK l b=true->hp b=look D b:=by
 intro l
 induction l with
 | nil=>intro _ b h;cases h
 | cons a l ih=>
  intro h b hb
  rw[XK]at hb
  cases e:Nat.beq a b with
  | true=>rw[<-YM e];exact h.1
  | false=>rw[e]at hb;exact ih h.2 b (by simpa using hb)
def Qm9 {D:L_ Nat}:∀{l:H_} {b:Nat},look (l.filter λp=>!(XK D p.1)) b=if XK D b=true then none else look l b:=by
 intro l
 induction l with
 | nil=>intro b;simp[look]
 | cons p l ih=>
  intro b
  rw[Nj]
  by_cases e:p.1=b
  ·subst e
   cases h:XK D p.1 with
   | true=>
    simp only[GE,Bool.false_eq_true,if_false]
    rw[ih,h];simp
   | false=>
    simp only[Bool.not_false,if_true,Bool.false_eq_true,if_false]
    obtain⟨k,v⟩:=p
    rw[QH,QH]
  cases h:XK D p.1 with
  | true=>
   simp only[GE,Bool.false_eq_true,if_false]
   rw[ih,QA (k:=p.1) p.2 l e]
  | false=>
   simp only[Bool.not_false,if_true]
   rw[QA (k:=p.1) p.2 _ e,ih,QA (k:=p.1) p.2 l e]
def R.congrHp {C:Xx}{σ σ':St}(hf:σ'.fr=σ.fr)(D:∀o,look σ'.hp o=look σ.hp o){a:Act}{w:World}(hR:R C σ a w):R C σ' a w:=by
 obtain⟨φ,h⟩:=hR
 exact⟨φ,h.os,h.tape,h.output,h.size,h.kept,h.inj,λo B hB=>by rw[D];exact h.dom o B hB,h.lt,h.new,⟨h.stay.1,λo ob B h1 h2 h3=>h.stay.2 o ob B h1 (by rw[<-D];exact h2) h3⟩,h.tmps,h.defers,λt v hv=>h.frame t v (by rw[<-hf];exact hv),λo ob hob=>h.heap o ob (by rw[<-D];exact hob)⟩
def mu1 (P:Program)(C:Xx)(T:EF)(n:Nat)(md:MD)(o:Oper)(f:Operand->O_ V)(hp:Nat->O_ Ob):O_ (Yp×O_ Prop):=match md with
 | .cm en M N dead ms outs r D=>match o.dst with
  | some d=>match o.op with
   | .call c=>bif GI ⟨[],N.map λp=>(p.1,Ob.itr0)⟩ M N dead outs&&Cw (M.map Prod.fst)&&Cw (N.map Prod.fst)&&Nat.ble (d+1) n then match Qqn P T f hp c en with
    | some (g,vs,ψ)=>match OZ (Ei M) ms vs with
     | some us=>match HF (Ei M) hp M with
      | some hsC=>match HF (Ei N) (look outs) N with
       | some hsN=>match trV (Ei N) r with
        | some r'=>match D with
         | []=>some (⟨dead,hsN,some (d,r')⟩,some (ψ/\QU P g us hsC (Gives r outs)))
         | _=>match dead with
          | []=>some (⟨[],hsN.filter (λp=>!(XK D p.1)),some (d,r')⟩,some ((ψ/\QU P g us hsC (Gives r outs))/\Qn7 hp hsN D))
          | _=>none
        | none=>none
       | none=>none
      | none=>none
     | none=>none
    | none=>none
    else none
   | _=>none
  | none=>none
 | .any M=>some (M,some (∀σ:St,(∀x u,f x=some u->σ.opd x=some u)->(∀b u,hp b=some u->look σ.hp b=some u)->Ql P C o σ (M.run σ)))
 | .s=>match o.dst with
  | some d=>match o.op with
   | .assign x=>match f x with
    | some v=>bif Nat.ble (d+1) n then some (⟨[],[],some (d,v)⟩,none)else none
    | none=>none
   | .move x=>match f x with
    | some v=>bif Nat.ble (d+1) n then some (⟨[],[],some (d,v)⟩,none)else none
    | none=>none
   | _=>none
  | none=>match o.op with
   | .store Tx x y=>match f x with
    | some (.loc b i off)=>match f y with
     | some v=>match hp b with
      | some (.var cs)=>match i with
       | 0=>match look T.sz Tx with
        | some k=>bif v.isV&&Nat.beq v.cells.length k&&v.cells.all V.one&&Nat.ble (off+k) cs.length then some (⟨[],[(b,.var (KU cs off v.cells))],none⟩,none)else none
        | none=>none
       | _=>none
      | _=>none
     | none=>none
    | _=>none
   | _=>none
 | .st r h=>match o.dst with
  | some _=>none
  | none=>match o.op with
   | .store Tx x y=>match f x with
    | some (.loc b i off)=>match f y with
     | some v=>match hp b with
      | some (.arr z rs)=>match look T.sz Tx with
       | some k=>bif v.isV&&Nat.beq v.cells.length k&&v.cells.all V.one&&v.cells.all V.dat&&Nat.ble (off+k) z then some (⟨[],[(b,.arr z h)],none⟩,some (rs[i]? = some r/\rs.set i (KU r off v.cells)=h))else none
       | none=>none
      | _=>none
     | none=>none
    | _=>none
   | _=>none
 | .app h m=>match o.dst with
  | some d=>match o.op with
   | .call c=>match c.callee with
    | .builtin .append=>match c.args.toList with
     | [x,y]=>match c.argTypes.toList with
      | [Tx,Ty]=>match f x with
       | some (.own b k)=>match f y with
        | some v=>match hp b with
         | some (.arr z rs)=>match look T.es Tx with
          | some (e,z',by_)=>match look T.zv e with
           | some zs=>bif (look T.es Ty).isSome&&Nat.ble (d+1) n&&!(Nat.ble 620 b)&&Nat.beq z z'&&Nat.beq zs.length z&&!(Nat.beq z 0)&&Nat.ble by_ 32768 then match v with
            | .sl z'' us=>bif Nat.beq z z'' then some (⟨[b],[(b,.arr z h)],some (d,.own b m)⟩,some (rs.length=k/\decide (k+us.length<=4294967296)=true/\rs++us=h/\k+us.length=m))else none
            | _=>none
            else none
           | none=>none
          | none=>none
         | _=>none
        | none=>none
       | _=>none
      | _=>none
     | _=>none
    | _=>none
   | _=>none
  | none=>none
def Sd (obj:Bool)(o:Oper)(t:Nat)(fo:Bool)(ms:L_ Yp):L_ (It×Nat)->Nat->O_ DF
 | (.add x fl _,j)::r,i+1=>bif Nat.beq x.d t&&Mn o i&&(bif fo then fl else bif obj then QaX x fl (ms.drop j)else alv x fl (ms.drop j))then some x else Sd obj o t fo ms r i
 | (.tn _,_)::r,i+1=>Sd obj o t fo ms r i
 | _,_=>none
def Vt (B:St)(fo:Bool)(ms:L_ Yp)(h:L_ (It×Nat))(i:Nat)(o:Oper):Operand->O_ V
 | .tmp t=>match look B.fr t with
  | some v=>some v
  | none=>match Sd false o t fo ms h i with
   | some x=>some x.v
   | none=>none
 | x=>B.opd x
def Qcb (B:St)(fo:Bool)(ms:L_ Yp)(h:L_ (It×Nat))(i:Nat)(o:Oper)(b:Nat):O_ Ob:=match look B.hp b with
 | some ob=>some ob
 | none=>match Sd true o b fo ms h i with
  | some x=>x.ob
  | none=>none
structure Dr where
 ri:List (It×Nat)
 ms:List Yp
 B:St
 φ:Prop
def UW (P:Program)(C:Xx)(T:EF)(n:Nat)(ops:Array Oper)(S:St):L_ Dw->L_ Oper->Nat->L_ (It×Nat)->L_ Yp->St->Prop->O_ Dr
 | [],_,_,D,ms,B,φ=>some ⟨D,ms,B,φ⟩
 | .a h sv fl nf::ds,o::l,i,D,ms,B,φ=>match Ur ops o (λt=>Vt (bif fl&&!nf then S else B) (fl&&!nf) ms D i o (.tmp t))with
  | some true=>match o.dst with
   | some d=>bif Nat.ble (d+1) n then match ev1 P C T h o d (Vt (bif fl&&!nf then S else B) (fl&&!nf) ms D i o) (Qcb (bif fl&&!nf then S else B) (fl&&!nf) ms D i o)with
    | some ⟨v,ob,q⟩=>match sv with
     | none=>UW P C T n ops S ds l (i+1) ((.add ⟨d,v,ob⟩ fl nf,ms.length)::D) ms B (Vo φ q)
     | some (mm,u)=>UW P C T n ops S ds l (i+1) ((.add ⟨d,u,ob⟩ fl nf,ms.length)::D) ms B (Vo φ q/\v.denil mm=u)
    | none=>none
    else none
   | none=>none
  | some false=>match o.dst with
   | some d=>bif Nat.ble (d+1) n then UW P C T n ops S ds l (i+1) ((.add ⟨d,.lit undef,none⟩ fl nf,ms.length)::D) ms B φ else none
   | none=>none
  | none=>none
 | .m md::ds,o::l,i,D,ms,B,φ=>match Ur ops o (λt=>Vt B false ms D i o (.tmp t))with
  | some true=>match mu1 P C T n md o (Vt B false ms D i o) (Qcb B false ms D i o)with
   | some (M,q)=>UW P C T n ops S ds l (i+1) ((.tn M,ms.length)::D) (ms++[M]) (M.run B) (Vo φ q)
   | none=>none
  | _=>none
 | _::_,[],_,_,_,_,_=>none
def YF (h:L_ (It×Nat)):L_ It:=(h.map Prod.fst).reverse
section
variable {P:Program}{C:Xx}{T:EF}{Q:Exit->St->Prop}{n:Nat}{ops:Array Oper}{base S:St}{ks:L_ Fr}
def Qk2 {md:MD}{o:Oper}{f:Operand->O_ V}{hp:Nat->O_ Ob}{M:Yp}{q:O_ Prop}{σ:St}(ok:DH P T)(hN:JB P C n)(e:mu1 P C T n md o f hp=some (M,q))(hq:match q with | none=>True | some p=>p)
  (h1:∀x u,f x=some u->σ.opd x=some u) (h2:∀b u,hp b=some u->look σ.hp b=some u):Ql P C o σ (M.run σ):=by
 have hn:=hN.n
 have hpg:=hN.g
 unfold mu1 at e
 cases md with
 | any M0=>cases e;exact hq σ h1 h2
 | cm en M0 N dead ms outs r same=>
  dsimp only at e
  split at e
  ·rename_i d hd
   split at e
   ·rename_i c ho
    replace e:=XX e;obtain⟨D,e⟩:=e
    simp only[QQ]at D
    obtain⟨⟨⟨g1,g2⟩,g3⟩,g4⟩:=D
    rw[<-hn]at g4
    have g1:=Qn6 (σ:=σ) g1
    have g2:=DX.1 g2
    have g3:=DX.1 g3
    have inj:IR M0=true/\IR N=true:=by
     simp only[GI,QQ]at g1
     exact⟨g1.1.1.1,g1.1.1.2⟩
    have mM:∀a b,Ei M0 a=some b->look M0 b=some a:=λa b h=>Wa inj.1 (Hz h) g2
    have mN:∀a b,Ei N a=some b->look N b=some a:=λa b h=>Wa inj.2 (Hz h) g3
    split at e
    ·rename_i g vs ψ hent
     split at e
     ·rename_i us hus
      split at e
      ·rename_i hsC hC
       split at e
       ·rename_i hsN hN
        split at e
        ·rename_i r' hr
         have call:ψ/\QU P g us hsC (Gives r outs)->Ql P C o σ ((σ.after dead hsN).put d r'):=λhq=>
          Ql.callM (g:=false) (Qn5 (C:=C) ok ho hent hq.1 h1 h2) hd g4 hpg g1 g2 (MT mM hus) (Ek mM (Qo4 h2 hC)) hq.2 (Ek mN hN) (OL mN hr)
         split at e
         ·cases e
          unfold Yp.run
          dsimp only
          rw[Qca];exact call hq
         split at e
         ·cases e
          obtain⟨hq1,hq2⟩:=hq
          intro a w hR K Q hK
          refine call hq1 a w hR K Q λa' w' hR'=>hK a' w' (R.congrHp ?_ (λo=>?_) hR')
          ·unfold Yp.run;dsimp only;rw[Qca];rfl
          unfold Yp.run;dsimp only;rw[Qca]
          show look (_++σ.hp) o=look (_++σ.hp) o
          rw[UI,UI,Qm9]
          by_cases hm:XK same o=true
          ·rw[if_pos hm]
           have:=Qo5 hq2 o hm
           cases hl:look hsN o with
           | none=>rfl
           | some ob=>rw[hl]at this;exact h2 o ob this
          rw[if_neg hm]
         cases e
        cases e
       cases e
      cases e
     cases e
    cases e
   cases e
  cases e
 | s=>
  dsimp only at e
  split at e
  ·rename_i d hd
   split at e
   ·rename_i x ho
    split at e
    ·rename_i v hv
     replace e:=XX e;obtain⟨D,e⟩:=e
     rw[<-hn]at D
     cases e;exact Ql.assign ho hd D (h1 _ _ hv)
    cases e
   ·rename_i x ho
    split at e
    ·rename_i v hv
     replace e:=XX e;obtain⟨D,e⟩:=e
     rw[<-hn]at D
     cases e;exact Ql.move ho hd D (h1 _ _ hv)
    cases e
   cases e
  rename_i hd
  split at e
  ·rename_i Tx x y ho
   split at e
   ·rename_i b i off hx
    split at e
    ·rename_i v hv
     split at e
     ·rename_i cs hb
      split at e
      ·split at e
       ·rename_i k hk
        replace e:=XX e;obtain⟨e2,e⟩:=e
        cases e
        simp only[QQ]at e2
        obtain⟨⟨⟨a1,a2⟩,a3⟩,a4⟩:=e2
        exact Ql.storeL ho hd (h1 _ _ hx) (h2 _ _ hb) (h1 _ _ hv) (V.isV_or a1) (ok.sz hk) (YM a2) a3 a4 rfl
       cases e
      cases e
     cases e
    cases e
   cases e
  cases e
 | st r rs'=>
  dsimp only at e
  split at e
  ·cases e
  rename_i hd
  split at e
  ·rename_i Tx x y ho
   split at e
   ·rename_i b i off hx
    split at e
    ·rename_i v hv
     split at e
     ·rename_i z rs hb
      split at e
      ·rename_i k hk
       replace e:=XX e;obtain⟨e2,e⟩:=e
       cases e
       simp only[QQ]at e2
       obtain⟨⟨⟨⟨a1,a2⟩,a3⟩,a4⟩,a5⟩:=e2
       exact Ql.storeA ho hd (h1 _ _ hx) (h2 _ _ hb) hq.1 (h1 _ _ hv) (V.isV_or a1) (ok.sz hk) (YM a2) a3 a4 a5 hq.2
      cases e
     cases e
    cases e
   cases e
  cases e
 | app rs' m=>
  dsimp only at e
  split at e
  ·rename_i d hd
   split at e
   ·rename_i c ho
    obtain⟨ce,ags,ts⟩:=c
    split at e
    ·rename_i hce
     dsimp only at hce e;subst hce
     split at e
     ·rename_i x y hxy
      split at e
      ·rename_i Tx Ty hT
       split at e
       ·rename_i b k hx
        split at e
        ·rename_i v hv
         split at e
         ·rename_i z rs hb
          split at e
          ·rename_i et z' by_ hes
           split at e
           ·rename_i zs hz
            replace e:=XX e;obtain⟨D,e⟩:=e
            simp only[QQ,Am]at D
            obtain⟨⟨⟨⟨⟨⟨a1,a2⟩,a3⟩,a4⟩,a5⟩,a6⟩,a7⟩:=D
            have a4:=YM a4;subst a4
            have a5:=YM a5
            have a6:z≠0:=λh0=>by rw[h0]at a6;cases a6
            rw[<-hn]at a2
            obtain⟨⟨e2,z2,by2⟩,hU⟩:∃q,Yk P Ty=some q:=by
             cases hl:look T.es Ty with
             | none=>rw[hl]at a1;cases a1
             | some q=>exact⟨q,ok.es hl⟩
            have ea:ags=#[x,y]:=by rw[<-ZM (xs:=ags),hxy]
            have et:ts=#[Tx,Ty]:=by rw[<-ZM (xs:=ts),hT]
            subst ea;subst et
            split at e
            ·rename_i z'' us
             replace e:=XX e;obtain⟨e3,e⟩:=e
             have:=YM e3;subst this
             cases e
             obtain⟨h4,h5,h6,h7⟩:=hq
             exact Ql.appS ho hd a2 (h1 _ _ hx) (h2 _ _ hb) a3 h4 (ok.es hes) hU (ok.zv hz) a5 a6 a7 h5 (h1 _ _ hv) h6 h7
            cases e
           cases e
          cases e
         cases e
        cases e
       cases e
      cases e
     cases e
    cases e
   cases e
  cases e
def QdH {obj:Bool}{o:Oper}{t:Nat}{fo:Bool}{ms:L_ Yp}:∀{D:L_ (It×Nat)} {i:Nat} {x:DF},i=D.length->Sd obj o t fo ms D i=some x->
  ∃k fl nf j,D.reverse[k]? = some (.add x fl nf,j)/\Mn o k=true/\x.d=t/\(bif fo then fl else bif obj then QaX x fl (ms.drop j)else alv x fl (ms.drop j))=true:=by
 intro D
 induction D with
 | nil=>intro i x hi h;subst hi;cases h
 | cons y D ih=>
  intro i x hi h
  subst hi
  have up:∀{x:DF},(∃k fl nf j,D.reverse[k]? = some (.add x fl nf,j)/\Mn o k=true/\x.d=t/\(bif fo then fl else bif obj then QaX x fl (ms.drop j)else alv x fl (ms.drop j))=true)->∃k fl nf j,(y::D).reverse[k]? = some (.add x fl nf,j)/\Mn o k=true/\x.d=t/\(bif fo then fl else bif obj then QaX x fl (ms.drop j)else alv x fl (ms.drop j))=true:=by
   rintro x ⟨k,fl,nf,j,h1,h2⟩
   refine⟨k,fl,nf,j,?_,h2⟩
   rw[List.reverse_cons,Jz (Xj.1 h1).1];exact h1
  obtain⟨it,j⟩:=y
  cases it with
  | tn M=>rw[GF,Sd]at h;exact up (ih rfl h)
  | add z fl nf=>
   rw[GF,Sd]at h
   cases hb:(Nat.beq z.d t&&Mn o D.length&&(bif fo then fl else bif obj then QaX z fl (ms.drop j)else alv z fl (ms.drop j)))with
   | true=>
    rw[hb]at h;cases h
    simp only[QQ]at hb
    exact⟨D.length,fl,nf,j,by simp,hb.1.2,YM hb.1.1,hb.2⟩
   | false=>rw[hb]at h;exact up (ih rfl h)
def Qcc {o:Oper}{f:Nat->O_ V}{σ:St}{b:Bool}(h:Ur ops o f=some b)(hx:∀t u,f t=some u->look σ.fr t=some u):Ur ops o (look σ.fr)=some b:=by
 unfold Ur at h ⊢
 cases hg:o.guard with
 | none=>simp only[hg]at h ⊢;exact h
 | some p=>
  obtain⟨j,t⟩:=p
  simp only[hg]at h ⊢
  cases hj:ops[j]? with
  | none=>simp only[hj]at h;cases h
  | some oj=>
   simp only[hj]at h ⊢
   cases hd:oj.dst with
   | none=>simp only[hd]at h;cases h
   | some d=>
    simp only[hd]at h ⊢
    cases D:f d with
    | none=>simp only[D]at h;cases h
    | some v=>
     have:=hx d v D
     simp only[D]at h
     simp only[this]
     exact h
def JK.want {o:Oper}{σ σ':St}(h:Ur ops o (look σ.fr)=some true)(hs:Ql P C o σ σ'):JK P C ops o σ σ':=by
 rcases Ss h with⟨hg,_⟩|⟨j,t,d',hg,hj,⟨u,hu,D⟩|⟨_,D⟩⟩
 ·exact JK.run hg hs
 ·exact JK.runG hg hj hu (by simpa using D.symm) hs
 cases D
def JK.unwant {o:Oper}{σ:St}{d:Nat}(h:Ur ops o (look σ.fr)=some false)(hd:o.dst=some d)(hn:B_ d C):JK P C ops o σ (σ.put d (.lit undef)):=by
 rcases Ss h with⟨_,D⟩|⟨j,t,d',hg,hj,⟨u,hu,D⟩|⟨hu,_⟩⟩
 ·cases D
 ·have:u=!t:=by cases u<;>cases t<;>first | rfl | cases D
  exact JK.pass hg hj hu this hd hn
 exact JK.passU hg hj hu hd hn
def QjY (ok:DH P T)(hN:JB P C n){D:Dr}:∀(ds:L_ Dw) {l:L_ Oper} {i:Nat} {ri:L_ (It×Nat)} {ms:L_ Yp} {B:St} {φ:Prop},UW P C T n ops S ds l i ri ms B φ=some D->i=ri.length->l=ops.toList.drop i->ms=Xr (YF ri)->B=Pb base ms->
  (∀k it j,ri.reverse[k]? = some (it,j)->j=j0 (YF ri) k)->D.φ->
  φ/\D.ri.length=i+ds.length/\(∃r,YF D.ri=YF ri++r)/\D.ms=Xr (YF D.ri)/\D.B=Pb base D.ms/\(∀k it j,D.ri.reverse[k]? = some (it,j)->j=j0 (YF D.ri) k)/\
   ∀k o it,i<=k->ops[k]? = some o->(YF D.ri)[k]? = some it->Qbk P C ops base S (YF D.ri) k o it:=by
 have hn:=hN.n
 intro ds
 induction ds with
 | nil=>
  intro l i ri ms B φ h hi hl hms hB hj hφ
  cases h
  refine⟨hφ,by simp[hi],⟨[],by simp⟩,hms,hB,hj,λk o it hk ho hit=>?_⟩
  have:=(Xj.1 hit).1
  simp[YF]at this;omega
 | cons d ds ih=>
  intro l i ri ms B φ h hi hl hms hB hj hφ
  cases l with
  | nil=>cases d<;>cases h
  | cons o l=>
   have ho:ops[i]? = some o:=by
    have:=congrArg (λx=>x[0]?) hl
    simpa using this.symm
   have hl':l=ops.toList.drop (i+1):=by
    have:=congrArg List.tail hl
    simpa using this
   have hlen:(YF ri).length=i:=by simp[YF,hi]
   have grow:∀(it:It) (φ0:Prop) (ms':L_ Yp) (B':St),ms'=Xr (YF ri++[it])->B'=Pb base ms'->UW P C T n ops S ds l (i+1) ((it,ms.length)::ri) ms' B' φ0=some D->
     (φ0->φ/\∀its:L_ It,(∃r,its=YF ri++(it::r))->Qbk P C ops base S its i o it)->
     φ/\D.ri.length=i+(ds.length+1)/\(∃r,YF D.ri=YF ri++r)/\D.ms=Xr (YF D.ri)/\D.B=Pb base D.ms/\(∀k it j,D.ri.reverse[k]? = some (it,j)->j=j0 (YF D.ri) k)/\
      ∀k o it,i<=k->ops[k]? = some o->(YF D.ri)[k]? = some it->Qbk P C ops base S (YF D.ri) k o it:=by
    intro it φ0 ms' B' hms' hB' h hstep
    have hio:YF ((it,ms.length)::ri)=YF ri++[it]:=by simp[YF]
    obtain⟨h1,h2,⟨r,h3⟩,h4,h5,h6,h7⟩:=ih h (by simp[hi]) hl' (by rw[hio];exact hms') hB' (λk it' j hk=>by
     rw[hio]
     rw[List.reverse_cons]at hk
     by_cases hlt:k<ri.length
     ·rw[Jz (by simpa using hlt)]at hk
      rw[hj k it' j hk];unfold j0
      rw[QeL (by omega)]
     rw[Wl (by simp;omega)]at hk
     have:k-ri.reverse.length=0:=by
      have:=(Xj.1 hk).1;simpa using this
     rw[this]at hk;simp at hk
     obtain⟨rfl,rfl⟩:=hk
     have hk2:k=ri.length:=by simp at this;omega
     unfold j0
     rw[QeL (by omega),hms,JR (by omega)]) hφ
    obtain⟨h8,h9⟩:=hstep h1
    rw[hio,WY]at h3
    refine⟨h8,by omega,⟨_,h3⟩,h4,h5,h6,λk o' it' hk ho' hit=>?_⟩
    rcases WO i k with hlt | hge
    ·exact h7 k o' it' hlt ho' hit
    have:k=i:=by omega
    subst this
    rw[ho]at ho';cases ho'
    have:(YF D.ri)[k]? = some it:=by rw[h3,Wl (by omega),hlen];simp
    rw[this]at hit;cases hit
    exact h9 _ ⟨r,h3⟩
   have place:∀{its:L_ It} {it:It} {r:L_ It},its=YF ri++(it::r)->(Xr its).take (j0 its i)=ms/\∀k it' j,ri.reverse[k]? = some (it',j)->its[k]? = some it'/\j=j0 its k:=by
    intro its it r hits
    have h1:its.take i=YF ri:=by rw[hits,QeL (by omega),JR (by omega)]
    refine⟨?_,λk it' j hk=>⟨?_,?_⟩⟩
    ·unfold j0;rw[h1,hits,AO,<-hms];simp
    ·have hk2:(YF ri)[k]? = some it':=by simp only[YF,<-List.map_reverse,Yf,hk,Ww]
     rw[hits,Jz (Xj.1 hk2).1];exact hk2
    have hkl:=(Xj.1 hk).1
    rw[hj k it' j hk];unfold j0
    rw[hits,QeL (by simp at hkl;omega)]
   have envB:∀{its:L_ It} {it:It} {r:L_ It} {σ:St},its=YF ri++(it::r)->Er σ B->(∀k y fl nf,its[k]? = some (.add y fl nf)->Mn o k=true->Pc σ y fl (ms.drop (j0 its k)))->
     (∀x u,Vt B false ms ri i o x=some u->σ.opd x=some u)/\∀b u,Qcb B false ms ri i o b=some u->look σ.hp b=some u:=by
    intro its it r σ hits hsub hdep
    have dep:∀{t:Nat} {x:DF},Sd false o t false ms ri i=some x->look σ.fr x.d=some x.v/\x.d=t:=λhf=>by
     obtain⟨k,fl,nf,j,g1,g2,g3,g4⟩:=QdH hi hf
     obtain⟨g5,g6⟩:=(place hits).2 k _ j g1
     exact⟨(hdep k _ fl nf g5 g2).1 (by rw[<-g6];exact g4),g3⟩
    have depO:∀{t:Nat} {x:DF},Sd true o t false ms ri i=some x->(∀ob,x.ob=some ob->look σ.hp x.d=some ob)/\x.d=t:=λhf=>by
     obtain⟨k,fl,nf,j,g1,g2,g3,g4⟩:=QdH hi hf
     obtain⟨g5,g6⟩:=(place hits).2 k _ j g1
     exact⟨(hdep k _ fl nf g5 g2).2 (by rw[<-g6];exact g4),g3⟩
    refine⟨λx u hx=>?_,λb u hx=>?_⟩
    ·cases x with
     | tmp t=>
      simp only[Vt]at hx
      split at hx
      ·rename_i v hv;cases hx;exact hsub.1 _ _ hv
      split at hx
      ·rename_i y hy;cases hx;obtain⟨g1,g2⟩:=dep hy;subst g2;exact g1
      cases hx
     | const v=>exact hx
     | global g=>exact hx
     | func f=>exact hx
    simp only[Qcb]at hx
    split at hx
    ·rename_i v hv;cases hx;exact hsub.2 _ _ hv
    split at hx
    ·rename_i y hy;obtain⟨g1,g2⟩:=depO hy;subst g2;exact g1 _ hx
    cases hx
   have envS:∀{its:L_ It} {it:It} {r:L_ It} {σ:St},its=YF ri++(it::r)->Er σ S->(∀k y nf,its[k]? = some (.add y true nf)->Mn o k=true->QbZ σ y)->
     (∀x u,Vt S true ms ri i o x=some u->σ.opd x=some u)/\∀b u,Qcb S true ms ri i o b=some u->look σ.hp b=some u:=by
    intro its it r σ hits hsub hdep
    have dep:∀{b:Bool} {t:Nat} {x:DF},Sd b o t true ms ri i=some x->QbZ σ x/\x.d=t:=λhf=>by
     obtain⟨k,fl,nf,j,g1,g2,g3,g4⟩:=QdH hi hf
     obtain⟨g5,g6⟩:=(place hits).2 k _ j g1
     have:fl=true:=g4
     subst this
     exact⟨hdep k _ nf g5 g2,g3⟩
    refine⟨λx u hx=>?_,λb u hx=>?_⟩
    ·cases x with
     | tmp t=>
      simp only[Vt]at hx
      split at hx
      ·rename_i v hv;cases hx;exact hsub.1 _ _ hv
      split at hx
      ·rename_i y hy;cases hx;obtain⟨g1,g2⟩:=dep hy;subst g2;exact g1.1
      cases hx
     | const v=>exact hx
     | global g=>exact hx
     | func f=>exact hx
    simp only[Qcb]at hx
    split at hx
    ·rename_i v hv;cases hx;exact hsub.2 _ _ hv
    split at hx
    ·rename_i y hy;obtain⟨g1,g2⟩:=dep hy;subst g2;exact g1.2 _ hx
    cases hx
   have addOK:∀{x:DF} {fl nf:Bool} {φ0:Prop},UW P C T n ops S ds l (i+1) ((.add x fl nf,ms.length)::ri) ms B φ0=some D->
     (φ0->φ/\∀σ,(∀y u,Vt (bif fl&&!nf then S else B) (fl&&!nf) ms ri i o y=some u->σ.opd y=some u)->(∀b u,Qcb (bif fl&&!nf then S else B) (fl&&!nf) ms ri i o b=some u->look σ.hp b=some u)->(x.ob.isSome=true->look σ.hp x.d=none)->JK P C ops o σ (σ.addF x))->
     φ/\D.ri.length=i+(ds.length+1)/\(∃r,YF D.ri=YF ri++r)/\D.ms=Xr (YF D.ri)/\D.B=Pb base D.ms/\(∀k it j,D.ri.reverse[k]? = some (it,j)->j=j0 (YF D.ri) k)/\
      ∀k o it,i<=k->ops[k]? = some o->(YF D.ri)[k]? = some it->Qbk P C ops base S (YF D.ri) k o it:=by
    intro x fl nf φ0 h hs
    refine grow (.add x fl nf) φ0 ms B (by rw[AO];simp[Xr,hms]) hB h λh0=>?_
    obtain⟨g1,g2⟩:=hs h0
    refine⟨g1,λits ⟨r,hits⟩=>?_⟩
    dsimp only[Qbk]
    generalize (fl&&!nf)=ff at g2 ⊢
    cases ff with
    | true=>exact λσ hsub hdep hf=>let ⟨a,b⟩:=envS hits hsub hdep;g2 σ a b hf
    | false=>
     intro σ hsub hdep hf
     rw[(place hits).1,<-hB]at hsub
     rw[(place hits).1]at hdep
     obtain⟨a,b⟩:=envB hits hsub hdep
     exact g2 σ a b hf
   cases d with
   | a h0 sv fl nf=>
    rw[UW]at h
    split at h
    ·rename_i hw
     split at h
     ·rename_i dd hd
      replace h:=XX h;obtain⟨e1,h⟩:=h
      rw[<-hn]at e1
      have stp:∀{v:V} {ob:O_ Ob} {q:O_ Prop} {σ:St},ev1 P C T h0 o dd (Vt (bif fl&&!nf then S else B) (fl&&!nf) ms ri i o) (Qcb (bif fl&&!nf then S else B) (fl&&!nf) ms ri i o)=some ⟨v,ob,q⟩->Rs.holds ⟨v,ob,q⟩->
        (∀x u,Vt (bif fl&&!nf then S else B) (fl&&!nf) ms ri i o x=some u->σ.opd x=some u)->(∀b u,Qcb (bif fl&&!nf then S else B) (fl&&!nf) ms ri i o b=some u->look σ.hp b=some u)->(ob.isSome=true->look σ.hp dd=none)->JK P C ops o σ (σ.addF ⟨dd,v,ob⟩):=
       λhe hq hx hh hf=>JK.want (Qcc hw λt u ht=>hx (.tmp t) u ht) (QdD ok hd e1 hN.g hx hh he hq hf)
      split at h
      ·rename_i v ob q he
       split at h
       ·exact addOK h λh1=>let ⟨a,b⟩:=Vp h1;⟨a,λσ hx hh hf=>stp he b hx hh hf⟩
       refine addOK h λh1=>?_
       obtain⟨h1,h2⟩:=h1
       subst h2
       obtain⟨a,b⟩:=Vp h1
       exact⟨a,λσ hx hh hf=>(stp he b hx hh hf).denil⟩
      cases h
     cases h
    ·rename_i hw
     split at h
     ·rename_i dd hd
      replace h:=XX h;obtain⟨e1,h⟩:=h
      rw[<-hn]at e1
      exact addOK h λh1=>⟨h1,λσ hx hh hf=>JK.unwant (Qcc hw λt u ht=>hx (.tmp t) u ht) hd e1⟩
     cases h
    cases h
   | m md=>
    rw[UW]at h
    split at h
    ·rename_i hw
     split at h
     ·rename_i M q he
      refine grow (.tn M) (Vo φ q) (ms++[M]) (M.run B) (by rw[AO];simp[Xr,hms]) (by rw[Qie,<-hB];rfl) h λh1=>?_
      obtain⟨a,b⟩:=Vp (v:=.J) (ob:=none) h1
      refine⟨a,λits ⟨r,hits⟩ σ hsub hdep=>?_⟩
      rw[(place hits).1,<-hB]at hsub
      rw[(place hits).1]at hdep
      obtain⟨hx,hh⟩:=envB hits hsub hdep
      refine JK.want (Qcc hw λt u ht=>hx (.tmp t) u ht) (Qk2 ok hN he ?_ hx hh)
      cases q with
      | none=>trivial
      | some p=>exact b
     cases h
    cases h
def MU (ms:L_ Yp):L_ (It×Nat)->S_
 | []=>[]
 | (.add x fl _,j)::r=>bif alv x fl (ms.drop j)then(x.d,x.v)::MU ms r else MU ms r
 | (.tn _,_)::r=>MU ms r
def IU (ms:L_ Yp):L_ (It×Nat)->H_
 | []=>[]
 | (.add x fl _,j)::r=>bif QaX x fl (ms.drop j)then(match x.ob with | some ob=>(x.d,ob)::IU ms r | none=>IU ms r)else IU ms r
 | (.tn _,_)::r=>IU ms r
def okV (ops:Array Oper)(base S:St)(D:Dr):Bool:=QjR ops&&Qqj ops (YF D.ri)&&Qmk base (YF D.ri)&&QjW ops D.ms (YF D.ri)&&QjX ops (YF D.ri) D.ms S&&Qn1 ops (YF D.ri)
def Rv {α:Type}{l:L_ (Nat×α)}:∀{D:L_ Nat} {r:L_ (Nat×α)},Ej l D=some r->∀p∈r,look l p.1=some p.2:=by
 intro D
 induction D with
 | nil=>intro r h p hp;cases h;cases hp
 | cons t D ih=>
  intro r h p hp
  rw[Ej]at h
  split at h
  ·rename_i v hv
   split at h
   ·rename_i r' hr
    cases h
    rcases Yw.1 hp with rfl | hp
    ·exact hv
    exact ih hr p hp
   cases h
  cases h
def Qmm {fr:S_}:∀{l:S_},(∀p∈l,look fr p.1=some p.2)->Lz fr l:=by
 intro l
 induction l with
 | nil=>intro _;trivial
 | cons p l ih=>intro h;exact⟨h p XY,ih λq D=>h q (Yo _ D)⟩
def Qmn {fr:H_}:∀{l:H_},(∀p∈l,look fr p.1=some p.2)->Ao fr l:=by
 intro l
 induction l with
 | nil=>intro _;trivial
 | cons p l ih=>intro h;exact⟨h p XY,ih λq D=>h q (Yo _ D)⟩
def AK.draw2 {id:Nat}(ok:DH P T)(hN:JB P C n)(hmix:P.follows .mixedOrders=true)(ds:L_ Dw)(sts sos ts os:L_ Nat){sf:S_}{sh:H_}{fr:S_}{hp:H_}{ri:L_ (It×Nat)}{ms:L_ Yp}{B:St}{φ:Prop}
  (hS1:Ej base.fr sts=some sf) (hS2:Ej base.hp sos=some sh)
  (e:UW P C T n ops ⟨sf,sh⟩ ds ops.toList 0 [] [] base True=some ⟨ri,ms,B,φ⟩) (hφ:φ) (hl:ds.length=ops.size) (hk:okV ops base ⟨sf,sh⟩ ⟨ri,ms,B,φ⟩=true)
  (hf1:Ej (MU ms ri++B.fr) ts=some fr) (hf2:Ej (IU ms ri++B.hp) os=some hp) (hc:St.closed ⟨fr,hp⟩=true) (k:AK P C Q (.x .normal) ks ⟨fr,hp⟩):AK P C Q (.c (.region id ops true)) ks base:=by
 have hn:=hN.n
 obtain⟨D,hD⟩:∃D:Dr,D=⟨ri,ms,B,φ⟩:=⟨_,rfl⟩
 rw[<-hD]at e hk
 have hφ:D.φ:=by rw[hD];exact hφ
 have hf1:Ej (MU D.ms D.ri++D.B.fr) ts=some fr:=by rw[hD];exact hf1
 have hf2:Ej (IU D.ms D.ri++D.B.hp) os=some hp:=by rw[hD];exact hf2
 clear hD
 simp only[okV,QQ]at hk
 obtain⟨⟨⟨⟨⟨k1,k2⟩,k3⟩,k4⟩,k5⟩,k6⟩:=hk
 obtain⟨_,h2,_,h4,h5,h6,h7⟩:=QjY (base:=base) ok hN ds e rfl rfl rfl rfl (λk it j h=>by simp at h) hφ
 have hlen:(YF D.ri).length=ops.size:=by simp[YF];omega
 rw[h4]at k4 k5
 have hS:Er base ⟨sf,sh⟩:=⟨λt v h=>by
  have:=Rv hS1 (t,v) (Jj h);exact this,λp ob h=>by have:=Rv hS2 (p,ob) (Jj h);exact this⟩
 refine AK.drawV hmix hlen k1 k2 k3 k6 k4 k5 hS (λi o it ho hit=>h7 i o it (He _) ho hit) λσ hsub hadd=>?_
 rw[<-h4,<-h5]at hsub
 have hadd':∀x fl nf j,(It.add x fl nf,j)∈D.ri->Pc σ x fl (D.ms.drop j):=by
  intro x fl nf j hm
  obtain⟨i,hi⟩:=List.getElem?_of_mem (List.mem_reverse.2 hm)
  have hj:=h6 i _ j hi
  rw[hj,h4]
  refine hadd i x fl nf ?_
  simp only[YF,<-List.map_reverse,Yf,hi,Ww]
 have frOK:∀{ri:L_ (It×Nat)},(∀q∈ri,q∈D.ri)->∀{t:Nat} {v:V},look (MU D.ms ri) t=some v->look σ.fr t=some v:=by
  intro ri
  induction ri with
  | nil=>intro _ t v h;cases h
  | cons y ri ih=>
   intro hm t v h
   have hm':=λq hq=>hm q (Yo _ hq)
   obtain⟨it,j⟩:=y
   cases it with
   | tn M=>exact ih hm' h
   | add x fl nf=>
    rw[MU]at h
    cases hal:alv x fl (D.ms.drop j)with
    | false=>rw[hal]at h;exact ih hm' h
    | true=>
     rw[hal]at h
     have h:look ((x.d,x.v)::MU D.ms ri) t=some v:=h
     by_cases e:x.d=t
     ·subst e;rw[QH]at h;cases h;exact(hadd' x fl nf j (hm _ XY)).1 hal
     rw[QA _ _ e]at h;exact ih hm' h
 have hpOK:∀{ri:L_ (It×Nat)},(∀q∈ri,q∈D.ri)->∀{t:Nat} {v:Ob},look (IU D.ms ri) t=some v->look σ.hp t=some v:=by
  intro ri
  induction ri with
  | nil=>intro _ t v h;cases h
  | cons y ri ih=>
   intro hm t v h
   have hm':=λq hq=>hm q (Yo _ hq)
   obtain⟨it,j⟩:=y
   cases it with
   | tn M=>exact ih hm' h
   | add x fl nf=>
    rw[IU]at h
    cases hal:QaX x fl (D.ms.drop j)with
    | false=>rw[hal]at h;exact ih hm' h
    | true=>
     rw[hal]at h
     cases hob:x.ob with
     | none=>rw[hob]at h;exact ih hm' h
     | some ob=>
      rw[hob]at h
      have h:look ((x.d,ob)::IU D.ms ri) t=some v:=h
      by_cases e:x.d=t
      ·subst e;rw[QH]at h;cases h;exact(hadd' x fl nf j (hm _ XY)).2 hal _ hob
      rw[QA _ _ e]at h;exact ih hm' h
 refine AK.weaken (λa w hR=>hR.to (Qmm λp hp'=>?_) (Qmn λp hp'=>?_) hc) k
 ·have:=Rv hf1 p hp'
  rw[UI]at this
  cases hl:look (MU D.ms D.ri) p.1 with
  | some v=>rw[hl]at this;cases this;exact frOK (λ_ h=>h) hl
  | none=>rw[hl]at this;exact hsub.1 _ _ this
 have:=Rv hf2 p hp'
 rw[UI]at this
 cases hl:look (IU D.ms D.ri) p.1 with
 | some v=>rw[hl]at this;cases this;exact hpOK (λ_ h=>h) hl
 | none=>rw[hl]at this;exact hsub.2 _ _ this
end
def Ql.callSame {P:Program}{C:Xx}{T:EF}{n:Nat}{o:Oper}{md:MD}{f:Operand->O_ V}{hp:Nat->O_ Ob}{σ:St}{d:Nat}{v:V}{q:Prop}(ok:DH P T)(hN:JB P C n)(h:∀x u,f x=some u->σ.opd x=some u)(D:∀b u,hp b=some u->look σ.hp b=some u)
  (e:mu1 P C T n md o f hp=some (⟨[],[],some (d,v)⟩,some q)) (hq:q):Ql P C o σ (σ.addF ⟨d,v,none⟩):=Qk2 (q:=some q) ok hN e hq h D
def Qsw {α:Type}{f:α->L_ V}{l:L_ α}{k:Nat}:((l.map f).drop k).take (l.length-k)=(l.drop k).map f:=by
 rw[<-List.map_drop];exact JR (by simp)
def Qcd {α:Type}{f:α->L_ V}{l:L_ α}{k h:Nat}:((l.map f).drop k).take (h-k)=((l.drop k).take (h-k)).map f:=by simp
def Qsx {α:Type}{l:L_ α}{k:Nat}:l.length-k=(l.drop k).length:=Nk.symm
def Qo6 {a b:Nat}(h:decide (a<=b)=true):a<=b:=Xo h
section
variable {P:Program}{C:Xx}{σ:St}{o:Oper}
def QdI (P:Program)(T:TypeId)(k:IntKind):Bool:=match P.underlying T with
 | some (.int q)=>ikB q k
 | _=>false
def Qce {T:TypeId}{k:IntKind}(h:QdI P T k=true):P.underlying T=some (.int k):=by
 unfold QdI at h
 split at h
 ·rename_i q D;rw[D,Ql6 h]
 cases h
def Ql.convI {S T d:Nat}{x:Operand}{k h:IntKind}{n:Int}(ho:o.op=.convert S T x)(hd:o.dst=some d)(hn:B_ d C)(hx:σ.opd x=some (.i h n))(hs:QdI P S h=true)(D:QdI P T k=true):Ql P C o σ (σ.put d (.i k (k.wrap n))):=by
 refine Ql.same hd hn λφ a w hr=>⟨.int k (k.wrap n),?_,.dat (.i _ _)⟩
 simp[execOp,ho,(hr.opd hx).i_inv,convert,run_underlying (Qce hs),run_underlying (Qce D),Conv.intToInt]
def Qn8 (k:IntKind)(m n:Int):Int:=k.wrap (m*2 ^ (min n.toNat k.bits))
def Jn (k:IntKind)(m n:Int):Int:=m.fdiv (2 ^ (min n.toNat k.bits))
def Ql.shl {x y:Operand}{T U d:Nat}{k k':IntKind}{m n:Int}(ho:o.op=.binOp .shl T x y U)(D:o.dst=some d)(hn:B_ d C)(hx:σ.opd x=some (.i k m))(hy:σ.opd y=some (.i k' n))(h0:0<=n):Ql P C o σ (σ.put d (.i k (Qn8 k m n))):=by
 refine Ql.same D hn λφ a w h=>⟨.int k _,?_,.dat (.i _ _)⟩
 have:¬n<0:=by omega
 simp[execOp,ho,(h.opd hx).i_inv,(h.opd hy).i_inv,eqGuard,binOp,Op.shift,this,Qn8]
def Ql.shr {x y:Operand}{T U d:Nat}{k k':IntKind}{m n:Int}(ho:o.op=.binOp .shr T x y U)(D:o.dst=some d)(hn:B_ d C)(hx:σ.opd x=some (.i k m))(hy:σ.opd y=some (.i k' n))(h0:0<=n):Ql P C o σ (σ.put d (.i k (Jn k m n))):=by
 refine Ql.same D hn λφ a w h=>⟨.int k _,?_,.dat (.i _ _)⟩
 have:¬n<0:=by omega
 simp[execOp,ho,(h.opd hx).i_inv,(h.opd hy).i_inv,eqGuard,binOp,Op.shift,this,Jn]
def DL (k:IntKind)(m n:Int):Int:=k.wrap ((BitVec.ofInt k.bits m &&& BitVec.ofInt k.bits n).toNat:Int)
def Ql.andB {x y:Operand}{T U d:Nat}{k:IntKind}{m n:Int}(ho:o.op=.binOp .and T x y U)(D:o.dst=some d)(hn:B_ d C)(hx:σ.opd x=some (.i k m))(hy:σ.opd y=some (.i k n)):Ql P C o σ (σ.put d (.i k (DL k m n))):=
 Ql.same D hn λφ a w h=>⟨.int k _,by simp[execOp,ho,(h.opd hx).i_inv,(h.opd hy).i_inv,eqGuard,binOp,Op.intBits,DL],.dat (.i _ _)⟩
def Cy : L_ V->O_ (L_ Value)
 | []=>some []
 | .i k n::r=>(Cy r).map (.int k n::·)
 | .b x::r=>(Cy r).map (.bool x::·)
 | .s x::r=>(Cy r).map (.string x::·)
 | _=>none
def Qo7 {φ:Nat->O_ Xa}{I:Nat->Prop}{w:World}:∀{D:L_ V} {vs xs:L_ Value},Cy D=some vs->xs.length=D.length->(∀(j:Nat) x v,xs[j]? = some x->D[j]? = some v->QT φ I w x v)->xs=vs:=by
 intro D
 induction D with
 | nil=>intro vs xs h hl _;cases h;exact QlN hl
 | cons c D ih=>
  intro vs xs h hl hr
  cases xs with
  | nil=>cases hl
  | cons x xs=>
   have h0:=hr 0 x c rfl rfl
   have hi:∀{us:L_ Value},Cy D=some us->xs=us:=λe=>ih e (by simpa using hl) λj x v a b=>hr (j+1) x v a b
   cases c with
   | i k n=>simp only[Cy,XW]at h;obtain⟨us,e,rfl⟩:=h;rw[h0.i_inv,hi e]
   | b k=>simp only[Cy,XW]at h;obtain⟨us,e,rfl⟩:=h;rw[h0.b_inv,hi e]
   | s k=>simp only[Cy,XW]at h;obtain⟨us,e,rfl⟩:=h;rw[h0.s_inv,hi e]
   | _=>cases h
def QT.aggVals {φ:Nat->O_ Xa}{I:Nat->Prop}{w:World}{x:Value}{D:L_ V}{vs:L_ Value}(h:QT φ I w x (.agg D))(hv:Cy D=some vs):x=.agg vs.toArray:=by
 obtain⟨xs,rfl,hs,hr⟩:=h.agg_inv
 have:=Qo7 (xs:=xs.toList) hv (by simpa using hs) λj x v a b=>hr j x v (by simpa using a) b
 rw[<-this]
def EqT (P:Program)(T:TypeId)(vs us:L_ Value)(r:Bool):Prop:=P.eqGuardType P.depth T=false/\∀w,(Op.equalIn 10000 T (.agg vs.toArray) (.agg us.toArray)).run P w=.ok r w
def Ql.eqAgg {x y:Operand}{T U d:Nat}{D ds:L_ V}{vs us:L_ Value}{r:Bool}(ho:o.op=.binOp .eql T x y U)(hd:o.dst=some d)(hn:B_ d C)(hx:σ.opd x=some (.agg D))(hy:σ.opd y=some (.agg ds))(hv:Cy D=some vs)(hu:Cy ds=some us)(h:EqT P T vs us r):
  Ql P C o σ (σ.put d (.b r)):=by
 refine Ql.same hd hn λφ a w hr=>⟨.bool r,?_,.dat (.b _)⟩
 have h1:=(hr.opd hx).aggVals hv
 have h2:=(hr.opd hy).aggVals hu
 have h3:=h.2 w
 simp only[execOp,ho,h1,h2,eqGuard,Xh,run_program,Xq,h.1]
 simp[binOp,Op.equal,Op.maxDepth,h3,h.1]
def Ql.neAgg {x y:Operand}{T U d:Nat}{D ds:L_ V}{vs us:L_ Value}{r:Bool}(ho:o.op=.binOp .neq T x y U)(hd:o.dst=some d)(hn:B_ d C)(hx:σ.opd x=some (.agg D))(hy:σ.opd y=some (.agg ds))(hv:Cy D=some vs)(hu:Cy ds=some us)(h:EqT P T vs us r):
  Ql P C o σ (σ.put d (.b (!r))):=by
 refine Ql.same hd hn λφ a w hr=>⟨.bool (!r),?_,.dat (.b _)⟩
 have h1:=(hr.opd hx).aggVals hv
 have h2:=(hr.opd hy).aggVals hu
 have h3:=h.2 w
 simp only[execOp,ho,h1,h2,eqGuard,Xh,run_program,Xq,h.1]
 simp[binOp,Op.equal,Op.maxDepth,h3,h.1]
end
section
variable {P:Program}{C:Xx}{σ:St}{Q:Exit->St->Prop}{ks:L_ Fr}{ops:Array Oper}{rest:L_ Oper}{o:Oper}
def AK.eqNil {x y:Operand}{T U d e z:Nat}{rows:L_ (L_ V)}(hg:o.guard=none)(ho:o.op=.binOp .eql T x y U)(hd:o.dst=some d)(hn:B_ d C)(hx:σ.opd x=some (.sl z rows))(hy:σ.opd y=some (.lit (.slice none 0 0)))(hT:P.underlying T=some (.slice e))
  (h1:rows=[]->AK P C Q (.o ops rest) ks (σ.put d (.b true))) (h2:AK P C Q (.o ops rest) ks (σ.put d (.b false))):AK P C Q (.o ops (o::rest)) ks σ:=by
 intro a w hR
 obtain⟨φ,hr⟩:=hR
 have hyv:a.eval y=.slice none 0 0:=(hr.opd hy).lit_inv
 have h:∀p l c,a.eval x=.slice p l c->(execOp a.eval o).run P w=.ok (.value (.bool p.isNone)) w:=λp l c e=>by
  simp[execOp,ho,e,hyv,eqGuard,binOp,run_equal_slice_nil w T _ p l c hT]
 have go:∀{v:Bool} {σ':St},(execOp a.eval o).run P w=.ok (.value (.bool v)) w->σ'=σ.put d (.b v)->AK P C Q (.o ops rest) ks σ'->wpListIn C.F 0 P ops (up C (unw P C Q ks)) (o::rest) a w:=λ{v σ'} e e2 k=>by
  have:Ql P C { o with op:=.move (.const (.bool v)) } σ (σ.put d (.b v)):=Ql.move rfl hd hn rfl
  simp only[wpListIn,Region.wanted,hg,if_true]
  refine⟨λ_ _=>trivial,?_⟩
  rw[Qh2 e,Oper.uponIn_value]
  subst e2
  refine k _ _ ⟨φ,?_⟩
  rw[hd]
  exact hr.put (XE hn) (.dat (.b _))
 rcases(hr.opd hx).sl_inv with⟨p,c,D,h0⟩|⟨b,off,cap,D,_⟩
 ·cases p with
  | none=>exact go (h none 0 c D) rfl (h1 h0)
  | some p=>exact go (h (some p) 0 c D) rfl h2
 exact go (h _ _ _ D) rfl h2
end
section
variable {P:Program}{C:Xx}{σ:St}{o:Oper}
def Ql.buildAny {T d e z by_ n:Nat}{D:Array (Nat×Operand)}{zs vs:L_ V}{qs:S_}(ho:o.op=.buildSlice T n D)(hd:o.dst=some d)(hn:B_ d C)
  (hT:Yk P T=some (e,z,by_)) (hz:Ya P e=some zs) (hzl:zs.length=z) (hz0:z≠0) (hbig:n*z<=16777216) (hq:σ.opds D.toList=some qs) (hv:qs.all (λq=>q.2.isV)=true)
  (hf:Un (λi=>some (i*z,z)) ((List.range (n*z)).map λk=>zs.getD (k % z) .J) qs=some vs)
  (hfr:look σ.hp d=none):Ql P C o σ ((σ.set d (.var vs)).put d (.own d n)):=by
 refine Ql.val λφ a w hr=>?_
 obtain⟨hu,i,hi,hi1,_⟩:=JJ hT
 obtain⟨i',zv,hi',hz',rfl⟩:=Bh hz
 rw[hi]at hi';cases hi'
 have hzs:zv.cells.size=i.size:=by rw[hi1];simpa using hzl
 have hf0:=hf
 rw[<-hi1]at hf
 rw[<-QbW zv.cells n i.size hzs (by omega)]at hf
 obtain⟨xs',h1,h2,h3⟩:=hr.fill hq hv hf
 refine⟨.slice (some ⟨w.heap.size,0,none⟩) n n,w.alloc (.cells xs' e),ext φ d ⟨w.heap.size,n,1,[],0⟩,?_,?_⟩
 ·have e2:(D.map λp=>(p.1,a.eval p.2)).toList=D.toList.map λp=>(p.1,a.eval p.2):=by simp
  have hb:¬(n*i.size > 2 ^ 24):=by rw[hi1];omega
  by_cases hn0:n*i.size=0
  ·have hn1:n=0:=by
    rw[hi1]at hn0
    rcases Nat.mul_eq_zero.1 hn0 with h | h
    ·exact h
    exact absurd h hz0
   subst hn1
   simp only[Cu]at h1
   rw[QjO,Array.map_empty]at h1
   simp only[execOp,ho,Instr.buildSlice,Xh,run_underlying hu,Xq,sizeOf,typeInfo,run_program,hi,Xw,Cu,if_true,e2,QjO,Array.map_empty]
   simp[h1,newRow]
  simp only[execOp,ho,Instr.buildSlice,Xh,run_underlying hu,Xq,sizeOf,typeInfo,run_program,hi,Xw,if_neg hb,if_neg hn0,zeroValue,hz',e2,h1,newRow,run_newObj]
  simp
 have hN:=hr.none_of_look hfr
 have hnew:=hr.alloc (cap:=n) (z:=1) hfr (C.slot hn) (ob:=.var vs) (obj:=.cells xs' e)
  ⟨xs',e,heap_alloc_new w _,h2,rfl,λj x v hx hv'=>(h3 j x v hx hv').mono (hr.mono_ext _ hN) (hr.imm_alloc d n 1 _ hN)⟩
 rw[hd]
 refine hnew.put (XE hn) ?_
 exact .own d n ⟨w.heap.size,n,1,[],0⟩ (Xv _ _ _) (YY _)
def Ql.idxV {T d e z by_ b n m:Nat}{x y:Operand}{cs:L_ V}{k:IntKind}{j:Int}(ho:o.op=.indexAddr T x y)(hd:o.dst=some d)(hn:B_ d C)
  (hx:σ.opd x=some (.own b n)) (hy:σ.opd y=some (.i k j)) (hT:Yk P T=some (e,z,by_)) (hb:look σ.hp b=some (.var cs)) (h:(0<=j/\j<n)/\j.toNat*z=m):
  Ql P C o σ (σ.put d (.loc b 0 m)):=by
 refine Ql.same hd hn λφ a w hr=>?_
 obtain⟨⟨h,h1⟩,rfl⟩:=h
 rcases(hr.opd hx).own_inv with⟨_,rfl⟩|⟨B,hB,D,he⟩
 ·omega
 refine⟨.pointer (some ⟨B.b,B.off+(0*B.z+j.toNat*z),none⟩),?_,.loc b 0 (j.toNat*z) B hB⟩
 simp only[execOp,ho,he,(hr.opd hy).i_inv,Xh,Vg hT h h1,Xq,Xw,Addr.add_lit,Cu,US]
end
section
variable {P:Program}{C:Xx}{Q:Exit->St->Prop}
def Rnd (P:Program)(C:Xx)(Q:Exit->St->Prop)(ks:L_ Fr)(c:Code):Nat->St->Prop
 | 0,_=>False
 | n+1,σ=>AK P C Q (.c c) (.cut (Rnd P C Q ks c n)::ks) σ
def AK.rnd {ks:L_ Fr}{c:Code}{n:Nat}{σ:St}(h:AK P C Q (.c c) (.cut (Rnd P C Q ks c n)::ks) σ):Rnd P C Q ks c (n+1) σ:=h
def AK.loopN {ks:L_ Fr}{c:Code}(n:Nat){σ:St}(h:Rnd P C Q ks c n σ):AK P C Q (.c (.loop c)) ks σ:=by
 have key:∀(n:Nat) (σ:St) (a:Act) (w:World),Rnd P C Q ks c n σ->R C σ a w->Code.roundsIn C.F 0 P c (up C (unw P C Q ks)) n a w:=by
  intro n
  induction n with
  | zero=>intro σ a w h;exact h.elim
  | succ n ih=>
   intro σ a w h D
   rw[roundsIn_succ]
   refine wpIn_mono (h a w D) ?_
   rintro e a' w' ⟨σ',h1,h2⟩
   cases e with
   | normal=>exact ih σ' a' w' h1 h2
   | _=>exact⟨σ',h1,h2⟩
 exact λa w D=>wpIn_loop_rounds n (key n σ a w h D)
end
end Go.Vm
