/- A part of the proof. -/
import Derived.Test.YthihjgnmfnohoaaGreatDoorR1V1
import Derived.Laws.StructEq
import Derived.Laws.Cover3
set_option linter.all false
namespace Go.Vm
open Go Go.RowKit
open Option renaming some→X
section
variable {κ α β:Type}[DecidableEq κ]
def Xa : L_ (κ×α)->κ->O_ α
 | [],_=>none
 | (a,x)::r,k=>if a=k then X x else Xa r k
def II (lt:κ->κ->Bool):L_ (κ×α)->κ->α->L_ (κ×α)
 | [],k,v=>[(k,v)]
 | (a,x)::r,k,v=>if lt k a=true then(k,v)::(a,x)::r else(a,x)::II lt r k v
def LV : L_ (κ×α)->κ->α->L_ (κ×α)
 | [],_,_=>[]
 | (a,x)::r,k,v=>if a=k then(k,v)::r else(a,x)::LV r k v
def Jl (lt:κ->κ->Bool)(l:L_ (κ×α))(k:κ)(v:α):L_ (κ×α):=match Xa l k with
 | some _=>LV l k v
 | none=>II lt l k v
def QdZ : ∀{l:L_ (κ×α)} {k:κ} {v:α},Xa l k=X v->(k,v)∈l:=by
 intro l
 induction l with
 | nil=>intro k v h;cases h
 | cons p l O=>
  intro k v h;obtain⟨a,x⟩:=p;rw[Xa]at h;split at h
  ·rename_i e;subst e;cases h;exact YY
  exact Kb _ (O h)
def QcG : ∀{l:L_ (κ×α)} {k:κ} {v:α},(l.map Prod.fst).Nodup->(k,v)∈l->Xa l k=X v:=by
 intro l
 induction l with
 | nil=>intro k v _ h;cases h
 | cons p l ih=>
  intro k v O h;obtain⟨a,x⟩:=p;rw[Gp,Lg]at O;rw[Xa];rcases XT.1 h with h | h
  ·cases h;simp
  have:a≠k:=λe=>O.1 (by rw[show(a,x).1=k from e];exact Yv.2 ⟨(k,v),h,rfl⟩);rw[if_neg this];exact ih O.2 h
def Qrl : ∀{l:L_ (κ×α)} {k:κ},Xa l k=none->∀p∈l,p.1≠k:=by
 intro l
 induction l with
 | nil=>intro k _ p h;cases h
 | cons q l ih=>
  intro k h p hp;obtain⟨a,x⟩:=q;rw[Xa]at h;split at h
  ·cases h
  rename_i O;rcases XT.1 hp with e | hp
  ·subst e;exact O
  exact ih h p hp
def QfE (lt:κ->κ->Bool):∀(l:L_ (κ×α)) (k:κ) (v:α),(II lt l k v).Perm ((k,v)::l):=by
 intro l
 induction l with
 | nil=>intro k v;exact .refl _
 | cons p l h=>
  intro k v;obtain⟨a,x⟩:=p;rw[II];split
  ·exact .refl _
  exact((h k v).cons (a,x)).trans (.swap _ _ _)
def Qid : ∀(l:L_ (κ×α)) (k:κ) (v:α),(LV l k v).map Prod.fst=l.map Prod.fst:=by
 intro l
 induction l with
 | nil=>intro k v;rfl
 | cons p l h=>
  intro k v;obtain⟨a,x⟩:=p;rw[LV];split
  ·rename_i e;subst e;rfl
  rw[Gp,Gp,h]
def QsB : ∀{l:L_ (κ×α)} {k:κ} {v:α},(l.map Prod.fst).Nodup->(∃x,(k,x)∈l)->∀p,p∈LV l k v↔p=(k,v)\/(p∈l/\p.1≠k):=by
 intro l
 induction l with
 | nil=>intro k v _ ⟨x,h⟩;cases h
 | cons q l ih=>
  intro k v hn ⟨x,hx⟩ p;obtain⟨a,y⟩:=q;rw[Gp,Lg]at hn;rw[LV];split
  ·rename_i e;subst e;have hno:∀p∈l,p.1≠a:=λp hp e=>hn.1 (Yv.2 ⟨p,hp,e⟩);constructor
   ·intro h;rcases XT.1 h with h | h
    ·exact .inl h
    exact .inr ⟨Kb _ h,hno p h⟩
   rintro (h | ⟨h,h'⟩)
   ·rw[h];exact YY
   rcases XT.1 h with h | h
   ·subst h;exact absurd rfl h'
   exact Kb _ h
  rename_i O;have hx':(k,x)∈l:=by
   rcases XT.1 hx with h | h
   ·cases h;exact absurd rfl O
   exact h
  have:=ih hn.2 ⟨x,hx'⟩ (v:=v) p;rw[XT,this,XT];constructor
  ·rintro (h | h | h)
   ·subst h;exact .inr ⟨.inl rfl,O⟩
   ·exact .inl h
   exact .inr ⟨.inr h.1,h.2⟩
  rintro (h | ⟨h | h,h'⟩)
  ·exact .inr (.inl h)
  ·exact .inl h
  exact .inr (.inr ⟨h,h'⟩)
def Qqd (lt:κ->κ->Bool){l:L_ (κ×α)}{k:κ}{v:α}(h:(l.map Prod.fst).Nodup):((Jl lt l k v).map Prod.fst).Nodup:=by
 unfold Jl;split
 ·rw[Qid];exact h
 rename_i hn;refine(((QfE lt l k v).map Prod.fst).nodup_iff).2 ?_;rw[Gp,Lg];refine⟨λO=>?_,h⟩;obtain⟨p,hp,e⟩:=Yv.1 O;exact Qrl hn p hp e
end
def QM {κ α:Type}(e:κ->V)(f:α->V)(l:L_ (κ×α)):L_ (V×V):=l.map λp=>(e p.1,f p.2)
structure UZ (P:Program) (K:TypeId) {κ:Type} (e:κ->V) (val:κ->Value):Prop where
 d:∃D,P.underlying K=X D/\∀k,MapKept.IsKey D (val k)
 inv:∀I w x k,Xu I w x (e k)->x=val k
 dat:∀I w k,Xu I w (val k) (e k)
 edat:∀k,(e k).dat=true
 inj:∀a b,val a=val b->a=b
 einj:∀a b,e a=e b->a=b
def QuH (P:Program)(K:TypeId)(h:IntKind):Bool:=match P.underlying K with
 | some (.int k)=>decide (k=h)
 | _=>false
def UZ.int {P:Program}{K:TypeId}{O:IntKind}(h:QuH P K O=true):UZ P K (V.i O) (Value.int O):=by
 unfold QuH at h;split at h
 ·rename_i k hk;have:=Xc h;subst this;refine⟨⟨_,hk,λ_=>rfl⟩,λI w x k h=>by cases h;rfl,λI w k=>.i _ _,λ_=>rfl,λa b h=>by cases h;rfl,λa b h=>by cases h;rfl⟩
 cases h
def UZ.str {P:Program}{K:TypeId}(h:Qfx P K=true):UZ P K V.s Value.string:=
 ⟨⟨_,Qib h,λ_=>trivial⟩,λI w x k h=>by cases h;rfl,λI w k=>.s _,λ_=>rfl,λa b h=>by cases h;rfl,λa b h=>by cases h;rfl⟩
section
variable {P:Program}{K:TypeId}{κ α:Type}[DecidableEq κ]{e:κ->V}{val:κ->Value}{f:α->V}{I:Nat->Prop}{w:World}{B:QY}{l:L_ (κ×α)}
def PT (he:∀a b,e a=e b->a=b):((QM e f l).map Prod.fst).Nodup↔(l.map Prod.fst).Nodup:=by
 have:(QM e f l).map Prod.fst=(l.map Prod.fst).map e:=by simp[QM]
 rw[this];constructor
 ·intro h;exact(Zy.1 h).imp λO e'=>O (by rw[e'])
 intro h;exact Zy.2 (h.imp λO e'=>O (he _ _ e'))
def Gr.find (hk:UZ P K e val){D:TypeDesc}(hD:P.underlying K=X D)(h:Gr I w B (QM e f l))(k:κ):∃es O,w.heap[B.b]? = X (.map es O)/\MapKept.Stamped es O/\(l.map Prod.fst).Nodup/\
  es.size=l.length/\MapKept.IsKey D (val k)/\
  ((Xa l k=none/\Instr.findNow D (val k) es.toList 0=X none/\∀x∈es.toList,x.key≠val k)\/
   ∃j x v,Xa l k=X v/\Instr.findNow D (val k) es.toList 0=X (X (j,x.val))/\es[j]? = X x/\x.key=val k/\Xu I w x.val (f v)):=by
 obtain⟨es,O,h1,h2,h3,h4,h5,h6⟩:=h;obtain⟨D',hD',hK⟩:=hk.d;rw[hD]at hD';cases hD';have hn:=(PT hk.einj).1 h3;have hrow:∀x∈es.toList,∃a y,(a,y)∈l/\x.key=val a/\Xu I w x.val (f y):=λx hx=>by
  obtain⟨p,hp,a1,a2⟩:=h5 x hx;obtain⟨q,hq,rfl⟩:=Yv.1 hp;exact⟨q.1,q.2,hq,hk.inv _ _ _ _ a1,a2⟩
 have hks:∀x∈es.toList,MapKept.IsKey D x.key:=λx hx=>by obtain⟨a,y,_,e1,_⟩:=hrow x hx;rw[e1];exact hK a
 refine⟨es,O,h1,h2,hn,by rw[h4,QM,EA],hK k,?_⟩;rcases MapKept.findNow_spec (hK k) es.toList 0 hks with⟨g1,g2⟩|⟨j,x,g1,g2,g3⟩
 ·refine .inl ⟨?_,g1,g2⟩;cases hg:Xa l k with
  | none=>rfl
  | some v=>
   obtain⟨x,hx,a1,_⟩:=h6 (e k,f v) (Yv.2 ⟨(k,v),QdZ hg,rfl⟩);exact absurd (hk.inv _ _ _ _ a1) (g2 x hx)
 obtain⟨a,y,hm,e1,e2⟩:=hrow x (Xx g2);have:a=k:=hk.inj _ _ (by rw[<-e1,g3]);subst this;exact .inr ⟨j,x,y,QcG hn hm,by simpa using g1,by simpa using g2,g3,e2⟩
end
def OQ (P:Program)(T:TypeId):O_ (TypeId×TypeId):=match P.underlying T with
 | some (.map k e)=>X (k,e)
 | _=>none
def Cx {P:Program}{T k e:TypeId}(h:OQ P T=X (k,e)):P.underlying T=X (.map k e):=by
 unfold OQ at h;split at h
 ·rename_i O;cases h;exact O
 cases h
section
variable {P:Program}{C:Xr}{σ:St}{o:Oper}
def Qc.makeMap {T d:Nat}(ho:o.op=.makeMap T none)(O:o.dst=X d)(h:B_ d C)(hf:look σ.hp d=none):Qc P C o σ ((σ.set d (.map [])).put d (.map d)):=by
 refine Qc.val λφ a w hr=>?_;refine⟨.map (X w.heap.size),w.alloc (.map #[] 0),ext φ d ⟨w.heap.size,0,0,[],0⟩,?_,?_⟩
 ·simp[execOp,ho,Instr.makeMap]
 rw[O];refine(hr.alloc (cap:=0) (z:=0) hf (C.slot h) (ob:=.map []) (obj:=.map #[] 0) ⟨#[],0,heap_alloc_new w _,MapKept.stamped_empty 0,by simp,rfl,by simp,by simp⟩).put (XH h) ?_;exact .map d ⟨w.heap.size,0,0,[],0⟩ (XF _ _ _)
def HV (P:Program)(T:TypeId)(z:V):Prop:=∃i x,P.info? T=X i/\i.zero=X x/\∀I w,Xu I w x z
def Qc.lookup {T d b K E:Nat}{x y:Operand}{κ α:Type}[DecidableEq κ]{e:κ->V}{val:κ->Value}{f:α->V}{l:L_ (κ×α)}{k:κ}{z:α}{v:V}(ho:o.op=.lookup T x y false)(hd:o.dst=X d)
  (hn:B_ d C) (hx:σ.opd x=X (.map b)) (hb:look σ.hp b=X (.map (QM e f l))) (hy:σ.opd y=X (e k)) (hT:OQ P T=X (K,E)) (hk:UZ P K e val) (hz:HV P E (f z))
  (hv:f ((Xa l k).getD z)=v):Qc P C o σ (σ.put d v):=by
 refine Qc.same hd hn λφ a w hr=>?_;subst hv;obtain⟨B,hB,he⟩:=(hr.opd hx).map_inv;have O:a.eval y=val k:=hk.inv _ _ _ _ ((hr.opd hy).toDat (hk.edat k));obtain⟨D,h,_⟩:=hk.d;obtain⟨es,clock,h1,h2,h3,h4,h5,h6⟩:=Gr.find hk h (hr.block hB hb) k;obtain⟨i,zx,hi,hzx,hzd⟩:=hz;rcases h6 with⟨g1,g2,_⟩|⟨j,xx,v,g1,g2,g3,g4,g5⟩
 ·refine⟨zx,?_,by rw[g1];exact .dat (hzd _ _)⟩;simp[execOp,ho,he,O,Instr.lookup,run_underlying (Cx hT),MapKept.run_getObj_map h1,MapKept.run_checkKey h h5,MapKept.run_findKey h g2,zeroValue,typeInfo,hi,hzx]
 refine⟨xx.val,?_,by rw[g1];exact .dat g5⟩;simp[execOp,ho,he,O,Instr.lookup,run_underlying (Cx hT),MapKept.run_getObj_map h1,MapKept.run_checkKey h h5,MapKept.run_findKey h g2]
def Qc.lookupOk {T d b K E:Nat}{x y:Operand}{κ α:Type}[DecidableEq κ]{e:κ->V}{val:κ->Value}{f:α->V}{l:L_ (κ×α)}{k:κ}{z:α}{v:V}{t:Bool}(ho:o.op=.lookup T x y true)(hd:o.dst=X d)
  (hn:B_ d C) (O:σ.opd x=X (.map b)) (hb:look σ.hp b=X (.map (QM e f l))) (hy:σ.opd y=X (e k)) (hT:OQ P T=X (K,E)) (hk:UZ P K e val) (hz:HV P E (f z))
  (hv:f ((Xa l k).getD z)=v) (ht:(Xa l k).isSome=t):Qc P C o σ (σ.put d (.tup [v,.b t])):=by
 refine Qc.same hd hn λφ a w hr=>?_;subst hv ht;obtain⟨B,hB,he⟩:=(hr.opd O).map_inv;have hyv:a.eval y=val k:=hk.inv _ _ _ _ ((hr.opd hy).toDat (hk.edat k));obtain⟨D,h,_⟩:=hk.d;obtain⟨es,clock,h1,h2,h3,h4,h5,h6⟩:=Gr.find hk h (hr.block hB hb) k;obtain⟨i,zx,hi,hzx,hzd⟩:=hz;have two:∀{x:Value} {u:V} {t:Bool},Xu (Xg C φ w) w x u->QO φ (Xg C φ w) w (.tuple #[x,.bool t]) (.tup [u,.b t]):=λ{x u t} h=>
  .dat (.tup _ _ rfl λj x' u' O hu=>by
   match j with
   | 0=>simp at O hu;subst O;subst hu;exact h
   | 1=>simp at O hu;subst O;subst hu;exact .b _
   | j+2=>simp at O)
 rcases h6 with⟨g1,g2,_⟩|⟨j,xx,v,g1,g2,g3,g4,g5⟩
 ·refine⟨.tuple #[zx,.bool false],?_,by rw[g1];exact two (hzd _ _)⟩;simp[execOp,ho,he,hyv,Instr.lookup,run_underlying (Cx hT),MapKept.run_getObj_map h1,MapKept.run_checkKey h h5,MapKept.run_findKey h g2,zeroValue,typeInfo,hi,hzx]
 refine⟨.tuple #[xx.val,.bool true],?_,by rw[g1];exact two g5⟩;simp[execOp,ho,he,hyv,Instr.lookup,run_underlying (Cx hT),MapKept.run_getObj_map h1,MapKept.run_checkKey h h5,MapKept.run_findKey h g2]
def GT {w:World}{r k:Nat}(o:Obj)(h:k≠r):(w.heap.setIfInBounds r o)[k]? = w.heap[k]? := by
 rw[Qcy,if_neg (Ne.symm h)]
def Qc.mapUpdateI {T b K E:Nat}{x y u:Operand}{κ α:Type}[DecidableEq κ]{e:κ->V}{val:κ->Value}{f:α->V}{l:L_ (κ×α)}{k:κ}{v:α}(lt:κ->κ->Bool)(ho:o.op=.mapUpdate T x y u\/o.op=.insert T x y u)(hd:o.dst=none)
  (O:σ.opd x=X (.map b)) (hb:look σ.hp b=X (.map (QM e f l))) (hy:σ.opd y=X (e k)) (hu:σ.opd u=X (f v)) (hT:OQ P T=X (K,E)) (hk:UZ P K e val) (hv:(f v).dat=true):
  Qc P C o σ (σ.set b (.map (QM e f (Jl lt l k v)))):=by
 refine Qc.skp λφ a w hr=>?_;obtain⟨B,hB,he⟩:=(hr.opd O).map_inv;have hyv:a.eval y=val k:=hk.inv _ _ _ _ ((hr.opd hy).toDat (hk.edat k));have huv:=(hr.opd hu).toDat hv;obtain⟨D,hD,_⟩:=hk.d;have hrep:=hr.block hB hb;obtain⟨es,clock,h1,h2,h3,h4,h5,h6⟩:=Gr.find hk hD hrep k;obtain⟨es',clock',h1',_,_,_,r5,r6⟩:=hrep;rw[h1]at h1';cases h1';have hlt:B.b<w.heap.size:=(hr.lt b B _ hB B.self).1;have write:∀(es2:Array MapEntry) (h:Nat) (l2:L_ (κ×α)),MapKept.Stamped es2 h->(l2.map Prod.fst).Nodup->es2.size=l2.length->
   (∀x∈es2.toList,∃p∈l2,x.key=val p.1/\Xu (Xg C φ w) w x.val (f p.2))->(∀p∈l2,∃x∈es2.toList,x.key=val p.1/\Xu (Xg C φ w) w x.val (f p.2))->
   RR C φ (σ.set b (.map (QM e f l2))) a { w with heap:=w.heap.setIfInBounds B.b (.map es2 h) }:=by
  intro es2 h l2 a1 a2 a3 a4 a5;have hI:∀k,Xg C φ w k->Xg C φ { w with heap:=w.heap.setIfInBounds B.b (.map es2 h) } k/\(w.heap.setIfInBounds B.b (.map es2 h))[k]? = w.heap[k]? := λk hk'=>
   ⟨⟨by simpa using hk'.1,hk'.2⟩,GT _ λe=>hk'.2.2 b B hB (.inl e)⟩
  refine hr.write hB rfl rfl rfl (by simp) (λk hne=>GT _ hne) ⟨es2,h,by simp[hlt],a1,(PT hk.einj).2 a2,by rw[a3,QM,EA],λx O=>?_,λp hp=>?_⟩
  ·obtain⟨p,hp,e1,e2⟩:=a4 x O;exact⟨_,Yv.2 ⟨p,hp,rfl⟩,by rw[e1];exact hk.dat _ _ _,e2.mono hI⟩
  obtain⟨q,hq,rfl⟩:=Yv.1 hp;obtain⟨x,O,e1,e2⟩:=a5 q hq;exact⟨x,O,by rw[e1];exact hk.dat _ _ _,e2.mono hI⟩
 have old1:∀x∈es.toList,∃p∈l,x.key=val p.1/\Xu (Xg C φ w) w x.val (f p.2):=λx O=>by
  obtain⟨p,hp,a1,a2⟩:=r5 x O;obtain⟨q,hq,rfl⟩:=Yv.1 hp;exact⟨q,hq,hk.inv _ _ _ _ a1,a2⟩
 have old2:∀p∈l,∃x∈es.toList,x.key=val p.1/\Xu (Xg C φ w) w x.val (f p.2):=λp hp=>by
  obtain⟨x,O,a1,a2⟩:=r6 _ (Yv.2 ⟨p,hp,rfl⟩);exact⟨x,O,hk.inv _ _ _ _ a1,a2⟩
 rcases h6 with⟨g1,g2,g3⟩|⟨j,xx,v0,g1,g2,g3,g4,g5⟩
 ·refine⟨{ w with heap:=w.heap.setIfInBounds B.b (.map (es.push { key:=val k,val:=a.eval u,born:=clock }) (clock+1)) },φ,?_,?_⟩
  ·rcases ho with ho | ho<;>simp[execOp,ho,he,hyv,Instr.mapUpdate,run_underlying (Cx hT),MapKept.run_getObj_map h1,MapKept.run_checkKey hD h5,MapKept.run_findKey hD g2,MapKept.run_setObj_map _ h1]
  rw[hd];have hms:Jl lt l k v=II lt l k v:=by unfold Jl;rw[g1]
  have hmem:∀p,p∈II lt l k v↔p=(k,v)\/p∈l:=λp=>by rw[(QfE lt l k v).mem_iff,XT]
  rw[hms];refine write _ _ _ (MapKept.stamped_push h2 g3) (by rw[<-hms];exact Qqd lt h3) (by rw[(QfE lt l k v).length_eq];simp[h4]) (λx O=>?_) (λp hp=>?_)
  ·simp only[Array.toList_push,Wr,Lf]at O;rcases O with O | rfl
   ·obtain⟨p,hp,e1,e2⟩:=old1 x O;exact⟨p,(hmem p).2 (.inr hp),e1,e2⟩
   exact⟨(k,v),(hmem _).2 (.inl rfl),rfl,huv⟩
  rcases(hmem p).1 hp with rfl | hp
  ·exact⟨{ key:=val k,val:=a.eval u,born:=clock },by simp,rfl,huv⟩
  obtain⟨x,O,e1,e2⟩:=old2 p hp;exact⟨x,by simp only[Array.toList_push,Wr];exact .inl O,e1,e2⟩
 refine⟨{ w with heap:=w.heap.setIfInBounds B.b (.map (es.modify j λx=>{ x with key:=val k,val:=a.eval u }) clock) },φ,?_,?_⟩
 ·rcases ho with ho | ho<;>simp[execOp,ho,he,hyv,Instr.mapUpdate,run_underlying (Cx hT),MapKept.run_getObj_map h1,MapKept.run_checkKey hD h5,MapKept.run_findKey hD g2,MapKept.run_setObj_map _ h1,g3,g4,MapKept.run_keyThatStays h5]
 rw[hd];have hms:Jl lt l k v=LV l k v:=by unfold Jl;rw[g1]
 have hmem:=QsB h3 ⟨v0,QdZ g1⟩ (v:=v);have hlen:(LV l k v).length=l.length:=by have:=congrArg List.length (Qid l k v);simpa using this
 have hjlt:j<es.size:=(AH.1 g3).1;have hmod:∀i:Nat,(es.modify j λx=>{ x with key:=val k,val:=a.eval u })[i]? = if i=j then X { xx with key:=val k,val:=a.eval u }else es[i]? := λi=>by
  rw[Array.getElem?_modify];by_cases hij:j=i
  ·subst hij;simp[g3]
  rw[if_neg hij,if_neg (Ne.symm hij)]
 have hkeyj:∀i x,es[i]? = X x->x.key=val k->i=j:=λi x O hxk=>by
  have hnd:=h2.2.2;have i1:(es.toList.map (·.key))[i]? = X (val k):=by simp[Yh,O,hxk]
  have i2:(es.toList.map (·.key))[j]? = X (val k):=by simp[Yh,g3,g4]
  exact(List.getElem?_inj (by simpa using (AH.1 O).1) hnd).1 (i1.trans i2.symm)
 rw[hms];refine write _ _ _ (MapKept.stamped_modify h2 _ _ (λ_ _=>rfl) λx _ O=>by rw[g3]at O;cases O;exact g4.symm) (by rw[Qid];exact h3) (by rw[Array.size_modify,h4,hlen]) (λx O=>?_) (λp hp=>?_)
 ·obtain⟨i,hi⟩:=Lc.1 O;rw[Qcz,hmod]at hi;split at hi
  ·cases hi;exact⟨(k,v),(hmem _).2 (.inl rfl),rfl,huv⟩
  rename_i hne;obtain⟨p,hp,e1,e2⟩:=old1 x (by rw[Lc];exact⟨i,by simpa using hi⟩);exact⟨p,(hmem p).2 (.inr ⟨hp,λe=>hne (hkeyj i x hi (by rw[e1,e]))⟩),e1,e2⟩
 rcases(hmem p).1 hp with rfl | ⟨hp,hne⟩
 ·exact⟨_,Lc.2 ⟨j,by rw[Qcz,hmod,if_pos rfl]⟩,rfl,huv⟩
 obtain⟨x,O,e1,e2⟩:=old2 p hp;obtain⟨i,hi⟩:=Lc.1 O;refine⟨x,Lc.2 ⟨i,?_⟩,e1,e2⟩;have hij:i≠j:=λe=>by
  subst e;rw[Qcz,g3]at hi;cases hi;exact hne (hk.inj _ _ (by rw[<-e1,g4]))
 rw[Qcz,hmod,if_neg hij,<-Qcz];exact hi
def Qc.mapUpdate {T b K E:Nat}{x y u:Operand}{κ α:Type}[DecidableEq κ]{e:κ->V}{val:κ->Value}{f:α->V}{l:L_ (κ×α)}{k:κ}{v:α}(lt:κ->κ->Bool)(ho:o.op=.mapUpdate T x y u)(hd:o.dst=none)
  (hx:σ.opd x=X (.map b)) (O:look σ.hp b=X (.map (QM e f l))) (hy:σ.opd y=X (e k)) (hu:σ.opd u=X (f v)) (h:OQ P T=X (K,E)) (hk:UZ P K e val) (hv:(f v).dat=true):
  Qc P C o σ (σ.set b (.map (QM e f (Jl lt l k v)))):=
 Qc.mapUpdateI lt (.inl ho) hd hx O hy hu h hk hv
def Qc.insert {T b K E:Nat}{x y u:Operand}{κ α:Type}[DecidableEq κ]{e:κ->V}{val:κ->Value}{f:α->V}{l:L_ (κ×α)}{k:κ}{v:α}(lt:κ->κ->Bool)(ho:o.op=.insert T x y u)(hd:o.dst=none)
  (hx:σ.opd x=X (.map b)) (O:look σ.hp b=X (.map (QM e f l))) (hy:σ.opd y=X (e k)) (hu:σ.opd u=X (f v)) (h:OQ P T=X (K,E)) (hk:UZ P K e val) (hv:(f v).dat=true):
  Qc P C o σ (σ.set b (.map (QM e f (Jl lt l k v)))):=
 Qc.mapUpdateI lt (.inr ho) hd hx O hy hu h hk hv
end
inductive DJ (σ:St) (dflt:Nat):Option Operand->Nat->Prop where
 | no:DJ σ dflt none dflt
 | val {x:Operand} {k:IntKind} {n:Int} {l:Nat}:σ.opd x=X (.i k n)->0<=n->n.toNat=l->DJ σ dflt (X x) l
section
variable {P:Program}{C:Xr}{σ:St}{o:Oper}{φ:Nat->O_ QY}{a:Act}{w:World}
def Li {k:IntKind}{i:Int}{y:Nat}{h:BoundsCode}(O:0<=i)(h1:i.toNat<=y):(Instr.sliceBound (.int k i) y h).run P w=.ok i.toNat w:=by
 have:0<=i/\i<=(y:Int):=⟨O,by omega⟩;simp[Instr.sliceBound,asIntOf,this]
def MA (hr:RR C φ σ a w){lo hi:O_ Operand}{l h O cap:Nat}{b:Bool}(hl:DJ σ 0 lo l)(hh:DJ σ O hi h)(h1:l<=h)(h2:h<=cap):
  (Instr.sliceBounds b O cap (lo.map a.eval) (hi.map a.eval) none).run P w=.ok (l,h,cap) w:=by
 cases hl with
 | no=>
  cases hh with
  | no=>simp[Instr.sliceBounds]
  | val e1 e2 e3=>subst e3;simp[Instr.sliceBounds,(hr.opd e1).i_inv,Li e2 h2]
 | val e1 e2 e3=>
  subst e3;cases hh with
  | no=>simp[Instr.sliceBounds,(hr.opd e1).i_inv,Li e2 h1]
  | val f1 f2 f3=>subst f3;simp[Instr.sliceBounds,(hr.opd e1).i_inv,Li e2 h1,(hr.opd f1).i_inv,Li f2 h2]
def Qc.sliceD {T d l h e z by_:Nat}{x:Operand}{lo hi:O_ Operand}{rows us:L_ (L_ V)}(ho:o.op=.slice T x lo hi none)(hd:o.dst=X d)(hn:B_ d C)(hx:σ.opd x=X (.sl z rows))
  (hT:Yp P T=X (e,z,by_)) (hl:DJ σ 0 lo l) (hh:DJ σ rows.length hi h) (h1:l<=h) (h2:h<=rows.length) (hu:(rows.drop l).take (h-l)=us):Qc P C o σ (σ.put d (.sl z us)):=by
 refine Qc.same hd hn λφ a w hr=>?_;subst hu;obtain⟨hu,i,hi',hiz,_⟩:=Kc hT;rcases(hr.opd hx).sl_inv with⟨a0,cap,he,rfl⟩|⟨b,off,cap,he,hI,hcap,hok,c,hc,O⟩
 ·have h0:h=0:=by simpa using h2
  subst h0;have l0:l=0:=by omega
  subst l0;refine⟨.slice (if cap=0 then a0 else a0.map (·.add (0*i.size))) 0 cap,?_,.dat (.sl0 _ _ _)⟩;have hh':DJ σ 0 hi 0:=hh;simp[execOp,ho,he,Instr.sliceAt,Instr.slice,run_underlying hu,MA hr hl hh' h1 (by simp:0<=cap),sizeOf,typeInfo,hi']
 refine⟨.slice (if cap=l then X ⟨b,off,none⟩else X ((⟨b,off,none⟩:Addr).add (l*i.size))) (h-l) (cap-l),?_,.dat ?_⟩
 ·simp only[execOp,ho,he,Instr.sliceAt,Instr.slice,run_underlying hu,Qaa,MA hr hl hh h1 (by omega:h<=cap),sizeOf,typeInfo,hi',Xd,Xp,run_program,Xf,GR,Qaa]
 by_cases hlh:h-l=0
 ·rw[hlh];simp only[List.take_zero];exact .sl0 _ _ _
 have hcl:cap≠l:=by omega
 rw[if_neg hcl,hiz,Addr.add_lit];refine .sl b (off+l*z) (h-l) (cap-l) z _ (λj=>c (l*z+j)) hI (by simp;omega) (by omega) (λr hr'=>hok r (TO (Ld hr'))) (λj hj=>?_) (λk r hk j v hj=>?_)
 ·have hle:l*z+(h-l)*z<=rows.length*z:=by rw[<-JH];exact Jb _ (by omega)
  have:=hc (l*z+j) (by omega);rw[PQ];exact this
 rw[Ka]at hk;split at hk
 ·rw[Ez]at hk;have:=O (l+k) r hk j v hj;rw[JH]at this;rw[<-PQ];exact this
 cases hk
def RR.shrink (h:RR C φ σ a w){b z:Nat}{rs:L_ (L_ V)}(hb:look σ.hp b=X (.arr z rs))(n:Nat):RR C φ (σ.set b (.arr z (rs.take n))) a w:=by
 refine⟨h.os,h.tape,h.output,h.size,h.kept,h.inj,λo B hB=>?_,h.lt,h.new,h.stay.set hb,h.tmps,h.defers,h.frame,λo ob O=>?_⟩
 ·by_cases e:o=b
  ·subst e;exact⟨_,σ.look_set_same _ _⟩
  obtain⟨ob,h1⟩:=h.dom o B hB;exact⟨ob,by rw[σ.look_set_other _ (Ne.symm e)];exact h1⟩
 by_cases e:o=b
 ·subst e;rw[σ.look_set_same]at O;cases O;rcases h.heap o _ hb with⟨B,hB,h1,h2,h3,cs,E,h4,h5,h6⟩|⟨h1,h2⟩
  ·refine .inl ⟨B,hB,h1,by simp;omega,λr hr=>h3 r (Ld hr),cs,E,h4,h5,λi r hi=>?_⟩;rw[Ka]at hi;split at hi
   ·exact h6 i r hi
   cases hi
  exact .inr ⟨h1,by show rs.take n=[];rw[show rs=[]from h2,List.take_nil]⟩
 rw[σ.look_set_other _ (Ne.symm e)]at O;exact h.heap o ob O
def Qc.sliceO {T d b n h e z by_:Nat}{x:Operand}{lo hi:O_ Operand}{rs us:L_ (L_ V)}(ho:o.op=.slice T x lo hi none)(hd:o.dst=X d)(hn:B_ d C)(hx:σ.opd x=X (.own b n))
  (hb:look σ.hp b=X (.arr z rs)) (hT:Yp P T=X (e,z,by_)) (hl:DJ σ 0 lo 0) (hh:DJ σ n hi h) (h2:h<=n) (hu:rs.take h=us):Qc P C o σ ((σ.set b (.arr z us)).put d (.own b h)):=by
 refine Qc.val λφ a w hr=>?_;subst hu;obtain⟨hu,i,O,hiz,_⟩:=Kc hT;have hs:=hr.shrink hb h;rcases(hr.opd hx).own_inv with⟨he,rfl⟩|⟨B,hB,hcap,he⟩
 ·have h0:h=0:=by omega
  subst h0;refine⟨.slice none 0 0,w,φ,?_,by rw[hd];exact hs.put (XH hn) (.own0 b)⟩;simp[execOp,ho,he,Instr.sliceAt,Instr.slice,run_underlying hu,MA hr hl hh (by omega) (by omega:0<=0),sizeOf,typeInfo,O]
 refine⟨.slice (X ⟨B.b,B.off,none⟩) h B.cap,w,φ,?_,by rw[hd];exact hs.put (XH hn) (.own b h B hB (by omega))⟩;simp only[execOp,ho,he,Instr.sliceAt,Instr.slice,run_underlying hu,MA hr hl hh (by omega) (by omega:h<=B.cap),sizeOf,typeInfo,O,Xd,Xp,run_program,Xf,GR,Qaa,Fc,Addr.add_lit,Om,ite_self,Nat.sub_zero]
def QgS (P:Program)(T:TypeId):Bool:=match P.underlying T with
 | some (.interface _)=>false
 | some _=>true
 | none=>false
def QmX {T:TypeId}(h:QgS P T=true):∃D,P.underlying T=X D/\∀m,D≠.interface m:=by
 unfold QgS at h;split at h
 ·cases h
 ·rename_i D O he;exact⟨D,he,λm e=>O m (by rw[e])⟩
 cases h
def Qc.makeInterface {T d:Nat}{x:Operand}{v:V}(ho:o.op=.makeInterface T x)(hd:o.dst=X d)(hn:B_ d C)(hx:σ.opd x=X v)(hT:QgS P T=true):Qc P C o σ (σ.put d (.ifc T v)):=by
 refine Qc.same hd hn λφ a w hr=>⟨.iface T (a.eval x),?_,.ifc T _ _ (hr.opd hx)⟩;obtain⟨D,O,h⟩:=QmX hT;have:(Instr.makeInterface T (a.eval x)).run P w=.ok (.iface T (a.eval x)) w:=by
  simp only[Instr.makeInterface,Xd,run_underlying O,Xf];cases D<;>first | rfl | exact absurd rfl (h _)
 simp only[execOp,ho,Xd,this,Xf,Xp]
def Qc.typeAssert {T S d:Nat}{x:Operand}{v:V}(ho:o.op=.typeAssert x S T false)(hd:o.dst=X d)(hn:B_ d C)(hx:σ.opd x=X (.ifc T v))(hT:QgS P T=true):Qc P C o σ (σ.put d v):=by
 refine Qc.same hd hn λφ a w hr=>?_;obtain⟨y,he,hy⟩:=(hr.opd hx).ifc_inv;refine⟨y,?_,hy⟩;obtain⟨D,O,h⟩:=QmX hT;have:(Instr.typeAssert (.iface T y) S T false).run P w=.ok y w:=by
  simp only[Instr.typeAssert,Xd,run_underlying O,Xf];cases D<;>first | simp | exact absurd rfl (h _)
 simp only[execOp,ho,he,Xd,this,Xf,Xp]
def Qc.nilCheckL {d b i k:Nat}{x:Operand}(ho:o.op=.nilCheck x)(hd:o.dst=X d)(hn:B_ d C)(O:σ.opd x=X (.loc b i k)):Qc P C o σ (σ.put d (.loc b i k)):=by
 refine Qc.same hd hn λφ a w h=>⟨a.eval x,?_,h.opd O⟩;obtain⟨B,hB,he⟩:=(h.opd O).loc_inv;simp[execOp,ho,he]
def Qc.makeFunc {d:Nat}{fn:Fn}{first h:Array Operand}{vs us:L_ V}(ho:o.op=.makeFunc fn first h)(hd:o.dst=X d)(hn:B_ d C)(h1:σ.opsV first.toList=X vs)(h2:σ.opsV h.toList=X us):
  Qc P C o σ (σ.put d (.clo fn vs us)):=by
 refine Qc.same hd hn λφ a w hr=>?_;obtain⟨a1,a2⟩:=hr.opsV _ _ h1;obtain⟨b1,b2⟩:=hr.opsV _ _ h2;refine⟨.func fn (first.map a.eval) (h.map a.eval),by simp[execOp,ho,Instr.makeFunc],.clo fn _ _ _ _ (by simpa using a1) (by simpa using b1) (λj x v O hv=>?_) λj x v O hv=>?_⟩
 ·rw[Array.getElem?_map,Yc]at O;obtain⟨y,hy,rfl⟩:=O;exact a2 j y v (by simpa using hy) hv
 rw[Array.getElem?_map,Yc]at O;obtain⟨y,hy,rfl⟩:=O;exact b2 j y v (by simpa using hy) hv
end
def Qd0 {κ:Type}(e:κ->V)(l:L_ (κ×L_ (L_ V))):L_ (V×L_ (L_ V)):=l.map λp=>(e p.1,p.2)
section
variable {P:Program}{K:TypeId}{κ:Type}[DecidableEq κ]{e:κ->V}{val:κ->Value}{I:Nat->Prop}{w:World}{B:QY}{l:L_ (κ×L_ (L_ V))}{z:Nat}{out:O_ V}
def QjW (he:∀a b,e a=e b->a=b):((Qd0 e l).map Prod.fst).Nodup↔(l.map Prod.fst).Nodup:=by
 have:(Qd0 e l).map Prod.fst=(l.map Prod.fst).map e:=by simp[Qd0]
 rw[this];constructor
 ·intro h;exact(Zy.1 h).imp λO e'=>O (by rw[e'])
 intro h;exact Zy.2 (h.imp λO e'=>O (he _ _ e'))
def Qok (I:Nat->Prop)(w:World)(z:Nat)(e:κ->V)(val:κ->Value)(out:O_ V)(l:L_ (κ×L_ (L_ V)))(x:MapEntry)(E:O_ QY):Prop:=
 ∃q∈l,x.key=val q.1/\((∃F,E=X F/\F.more=[]/\out≠X (e q.1)/\YD I w F z q.2/\x.val=.slice (X ⟨F.b,F.off,none⟩) q.2.length F.cap)\/(E=none/\out=X (e q.1)))
def EH.find (hk:UZ P K e val){D:TypeDesc}(hD:P.underlying K=X D)(h:EH I w B z (Qd0 e l) out)(k:κ):∃(es:Array MapEntry) (O:Nat) (bs:L_ (O_ QY)),w.heap[B.b]? = X (.map es O)/\MapKept.Stamped es O/\(l.map Prod.fst).Nodup/\
  es.size=l.length/\bs.length=l.length/\B.more=bs.filterMap (Option.map QY.b)/\(B.b::B.more).Nodup/\MapKept.IsKey D (val k)/\
  (∀(i:Nat) x E,es[i]? = X x->bs[i]? = X E->Qok I w z e val out l x E)/\(∀q∈l,∃(i:Nat) (x:MapEntry),es[i]? = X x/\x.key=val q.1)/\
  ((Xa l k=none/\Instr.findNow D (val k) es.toList 0=X none/\∀x∈es.toList,x.key≠val k)\/
   ∃j x E rs,Xa l k=X rs/\Instr.findNow D (val k) es.toList 0=X (X (j,x.val))/\es[j]? = X x/\bs[j]? = X E/\x.key=val k/\∀i y,es[i]? = X y->y.key=val k->i=j):=by
 obtain⟨es,O,h1,h2,h3,h4,bs,h5,h6,h7,h8,h9⟩:=h;obtain⟨D',hD',hK⟩:=hk.d;rw[hD]at hD';cases hD';have hn:=(QjW hk.einj).1 h3;have hl:(Qd0 e l).length=l.length:=by simp[Qd0]
 have hrow:∀(i:Nat) x E,es[i]? = X x->bs[i]? = X E->Qok I w z e val out l x E:=λi x E hi hE=>by
  obtain⟨p,hp,a1,a2⟩:=h8 i x E hi hE;obtain⟨q,hq,rfl⟩:=Yv.1 hp;exact⟨q,hq,hk.inv _ _ _ _ a1,a2⟩
 have hbs:∀i x,es[i]? = X x->∃E,bs[i]? = X E:=λi x hi=>by
  have hlt:i<bs.length:=by rw[h5,<-h4];exact(AH.1 hi).1
  exact⟨_,QN hlt⟩
 have hks:∀x∈es.toList,MapKept.IsKey D x.key:=λx hx=>by
  obtain⟨i,hi⟩:=Lc.1 hx;rw[Qcz]at hi;obtain⟨E,hE⟩:=hbs i x hi;obtain⟨q,_,e1,_⟩:=hrow i x E hi hE;rw[e1];exact hK _
 refine⟨es,O,bs,h1,h2,hn,by rw[h4,hl],by rw[h5,hl],h6,h7,hK k,hrow,λq hq=>?_,?_⟩
 ·obtain⟨i,x,hi,a1⟩:=h9 _ (Yv.2 ⟨q,hq,rfl⟩);exact⟨i,x,hi,hk.inv _ _ _ _ a1⟩
 rcases MapKept.findNow_spec (hK k) es.toList 0 hks with⟨g1,g2⟩|⟨j,x,g1,g2,g3⟩
 ·refine .inl ⟨?_,g1,g2⟩;cases hg:Xa l k with
  | none=>rfl
  | some rs=>
   obtain⟨i,x,hi,a1⟩:=h9 (e k,rs) (Yv.2 ⟨(k,rs),QdZ hg,rfl⟩);exact absurd (hk.inv _ _ _ _ a1) (g2 x (Lc.2 ⟨i,by rw[Qcz];exact hi⟩))
 have g2':es[j]? = X x:=by simpa using g2
 obtain⟨E,hE⟩:=hbs j x g2';obtain⟨⟨a,rs⟩,hm,e1,_⟩:=hrow j x E g2' hE;have:a=k:=hk.inj _ _ (by rw[<-e1,g3]);subst this;refine .inr ⟨j,x,E,rs,QcG hn hm,by simpa using g1,g2',hE,g3,λi y hy hyk=>?_⟩;have i1:(es.toList.map (·.key))[i]? = X (val a):=by simp[Yh,hy,hyk]
 have i2:(es.toList.map (·.key))[j]? = X (val a):=by simp[Yh,g2',g3]
 exact(List.getElem?_inj (by simpa using (AH.1 hy).1) h2.2.2).1 (i1.trans i2.symm)
def EH.of (hk:UZ P K e val){es:Array MapEntry}{h:Nat}{O:L_ (O_ QY)}(h1:w.heap[B.b]? = X (.map es h))(h2:MapKept.Stamped es h)(h3:(l.map Prod.fst).Nodup)(h4:es.size=l.length)
  (h5:O.length=l.length) (h6:B.more=O.filterMap (Option.map QY.b)) (h7:(B.b::B.more).Nodup) (h8:∀(i:Nat) x E,es[i]? = X x->O[i]? = X E->Qok I w z e val out l x E)
  (h9:∀q∈l,∃(i:Nat) (x:MapEntry),es[i]? = X x/\x.key=val q.1):EH I w B z (Qd0 e l) out:=by
 have hl:(Qd0 e l).length=l.length:=by simp[Qd0]
 refine⟨es,h,h1,h2,(QjW hk.einj).2 h3,by rw[h4,hl],O,by rw[h5,hl],h6,h7,λi x E hi hE=>?_,λp hp=>?_⟩
 ·obtain⟨q,hq,a1,a2⟩:=h8 i x E hi hE;exact⟨_,Yv.2 ⟨q,hq,rfl⟩,by rw[a1];exact hk.dat _ _ _,a2⟩
 obtain⟨q,hq,rfl⟩:=Yv.1 hp;obtain⟨i,x,hi,a1⟩:=h9 q hq;exact⟨i,x,hi,by rw[a1];exact hk.dat _ _ _⟩
end
section
variable {P:Program}{C:Xr}{σ:St}{o:Oper}{φ:Nat->O_ QY}{a:Act}{w:World}{ops:Array Oper}{c:Code}{Q:Exit->St->Prop}
def RR.say' (h:RR C φ σ a w){b:Nat}{ob ob':Ob}(hb:look σ.hp b=X ob)(hs:∀B,φ b=X B->Ko φ (Xg C φ w) w B ob->Ko φ (Xg C φ w) w B ob')(hne:¬ob.Nil):RR C φ (σ.set b ob') a w:=by
 refine⟨h.os,h.tape,h.output,h.size,h.kept,h.inj,λo B hB=>?_,h.lt,h.new,h.stay.set hb,h.tmps,h.defers,h.frame,λo ob2 O=>?_⟩
 ·by_cases e:o=b
  ·subst e;exact⟨_,σ.look_set_same _ _⟩
  obtain⟨ob,h1⟩:=h.dom o B hB;exact⟨ob,by rw[σ.look_set_other _ (Ne.symm e)];exact h1⟩
 by_cases e:o=b
 ·subst e;rw[σ.look_set_same]at O;cases O;rcases h.heap o _ hb with⟨B,hB,hr⟩|⟨_,h2⟩
  ·exact .inl ⟨B,hB,hs B hB hr⟩
  exact absurd h2 hne
 rw[σ.look_set_other _ (Ne.symm e)]at O;exact h.heap o ob2 O
def QsC (P:Program)(T:TypeId):Bool:=match P.info? T with
 | some i=>match i.zero with
  | some (.slice none 0 0)=>true
  | _=>false
 | none=>false
def QsD {T:TypeId}(h:QsC P T=true):∃i,P.info? T=X i/\i.zero=X (.slice none 0 0):=by
 unfold QsC at h;split at h
 ·rename_i i O;split at h
  ·rename_i hz;exact⟨i,O,hz⟩
  cases h
 cases h
def HV.sl {T:TypeId}{z:Nat}(h:QsC P T=true):HV P T (.sl z []):=let ⟨i,h1,h2⟩:=QsD h;⟨i,_,h1,h2,λ_ _=>.sl0 _ _ _⟩
def HV.one {T:TypeId}{v:Value}(hi:((P.info? T).bind (·.zero))=X v):HV P T (BI v):=by
 obtain⟨i,h,O⟩:=PS.1 hi;exact⟨i,v,h,O,λ_ _=>Xu.const v⟩
end
section
variable {P:Program}{C:Xr}{σ:St}{o:Oper}{a:Act}{w:World}
end
def QP.toData {P:Program}{f:FuncId}{us:L_ V}{z:Nat}{rows:L_ (L_ V)}(h:QP P f us [] (QjR z rows)):QP P f us [] (λv _=>v=.sl z rows):=by
 intro S φ w vals hi hG;refine(h S φ w vals hi hG).mono ?_;rintro e w' ⟨x,v,hs',φ',rfl,⟨o,rfl,hl⟩,ho⟩;have hφ:∀o B,φ o≠X B:=λo B hB=>by obtain⟨ob,h⟩:=(hi.dom o B hB).2.2;cases h
 have hA:∀k,Aft S φ' w w' k->Aft S (λ_=>none) w w' k:=λk hk=>⟨hk.1,hk.2.1,λ_ _ h=>by cases h⟩;refine⟨x,.sl z rows,[],λ_=>none,rfl,rfl,ho.os,ho.tape,ho.output,ho.size,ho.kept,λ_ _ _ _ _ h=>(by cases h),λ_ _ h=>(by cases h),λ_ _ _ h=>(by cases h),λ_ _ _ h=>(by cases h),⟨λ_ _ _ h=>(by cases h),λ_ _ _ _ h=>(by cases h)⟩,?_,λ_ _ h=>(by cases h)⟩;rcases ho.heap o _ hl with⟨B,hB,hrep⟩|⟨hn,hz⟩
 ·rcases ho.rep.own_inv with⟨rfl,h0⟩|⟨B',O,hcap,rfl⟩
  ·have:rows=[]:=PP.1 h0;subst this;exact .dat (.sl0 _ _ _)
  rw[hB]at O;cases O;obtain⟨rfl,hrl,hok,cs,E,h1,h2,h3⟩:=hrep;refine .dat (.sl B.b B.off rows.length B.cap B.z rows (λj=>cs.getD (B.off+j) undef) ⟨(ho.lt o B B.b hB B.self).1,λhlt=>?_,λ_ _ h=>by cases h⟩ rfl hcap hok (λj hj=>?_) (λi r hi j v hj=>?_))
  ·obtain⟨o',B',h4,_⟩:=(ho.lt o B B.b hB B.self).2 hlt;exact absurd h4 (hφ _ _)
  ·have hle2:rows.length*B.z<=B.cap*B.z:=Jb _ hcap;have:B.off+j<cs.size:=by omega
   simp[World.cell?,h1,Array.getD,this]
  obtain⟨y,hy,hd⟩:=h3 i r hi j v hj;have:cs.getD (B.off+(i*B.z+j)) undef=y:=by simp[Qcx,hy]
  rw[this];exact hd.mono λk hk=>⟨hA k hk,rfl⟩
 replace hz:rows=[]:=hz;subst hz;rcases ho.rep.own_inv with⟨rfl,h0⟩|⟨B',O,hcap,rfl⟩
 ·exact .dat (.sl0 _ _ _)
 rw[hn]at O;cases O
structure Uh where
 ag:List (Nat×Bool)
 sz:List (Nat×Nat)
 fo:List (Nat×List Nat)
 sp:List (Nat×List (Nat×Nat))
 es:List (Nat×(Nat×Nat×Nat))
 ar:List (Nat×(Nat×Nat))
 zv:List (Nat×List V)
 sb:List Nat
 bo:List Nat
 cc:List Nat
 en:List Nat
def foB (P:Program)(t:Nat):L_ Nat->Nat->Bool
 | [],_=>true
 | off::r,i=>(match LR P t i with | some k=>Nat.beq k off | none=>false)&&foB P t r (i+1)
def Uh.okB (P:Program)(T:Uh):Bool:=
 T.ag.all (λp=>UD P p.1==X p.2)&&T.sz.all (λp=>Bn P p.1==X p.2)&&T.fo.all (λp=>foB P p.1 p.2 0)&&T.sp.all (λp=>QdR P p.1==X p.2) &&
 T.es.all (λp=>Yp P p.1==X p.2)&&T.ar.all (λp=>QbI P p.1==X p.2)&&T.sb.all (Qfx P)&&T.bo.all (QjS P)&&T.cc.all (QgS P)&&T.en.all (QcD P)
structure Gc (P:Program) (T:Uh):Prop where
 ag:∀{t b},look T.ag t=X b->UD P t=X b
 sz:∀{t b},look T.sz t=X b->Bn P t=X b
 fo:∀{t l},look T.fo t=X l->∀{i:Nat} {k:Nat},l[i]? = X k->LR P t i=X k
 sp:∀{t b},look T.sp t=X b->QdR P t=X b
 es:∀{t b},look T.es t=X b->Yp P t=X b
 ar:∀{t b},look T.ar t=X b->QbI P t=X b
 zv:∀{t b},look T.zv t=X b->XZ P t=X b
 sb:∀{t},XM T.sb t=true->Qfx P t=true
 bo:∀{t},XM T.bo t=true->QjS P t=true
 cc:∀{t},XM T.cc t=true->QgS P t=true
 en:∀{t},XM T.en t=true->QcD P t=true
def QtY {P:Program}{t:Nat}:∀{l:L_ Nat} {j:Nat},foB P t l j=true->∀{i k:Nat},l[i]? = X k->LR P t (j+i)=X k:=by
 intro l
 induction l with
 | nil=>intro j _ i k h;simp at h
 | cons off r ih=>
  intro j h i k O;rw[foB,QH]at h;cases i with
  | zero=>
   simp at O;subst O;have:=h.1;split at this
   ·rename_i k' hk';rw[Om,hk',Ye this]
   cases this
  | succ i=>simp at O;have:=ih h.2 O;rwa[show j+(i+1)=j+1+i by omega]
def Uh.ok {P:Program}{T:Uh}(h:T.okB P=true)(hz:∀p∈T.zv,XZ P p.1=X p.2):Gc P T:=by
 simp only[Uh.okB,QH,XG,beq_iff_eq]at h;obtain⟨⟨⟨⟨⟨⟨⟨⟨⟨h1,h2⟩,h3⟩,h4⟩,h5⟩,h6⟩,h7⟩,h8⟩,h9⟩,O⟩:=h;exact⟨λe=>h1 _ (JD e),λe=>h2 _ (JD e),λe i k hk=>by have:=QtY (h3 _ (JD e)) hk;rwa[Gq]at this,λe=>h4 _ (JD e),
  λe=>h5 _ (JD e),λe=>h6 _ (JD e),λe=>hz _ (JD e),λe=>h7 _ (LT.1 e),λe=>h8 _ (LT.1 e),λe=>h9 _ (LT.1 e),λe=>O _ (LT.1 e)⟩
inductive Mode where
 | d
 | n (z:Nat)
 | o (us:List (List V))
 | f (n:Nat)
 | t (b:Nat)
inductive WK where
 | no
 | row (r:List V)
 | ix
 | rows (rs:List (List V))
 | ln (n:Nat)
 | num (r:Int)
 | bd (ms:List (Option Nat))
 | c (g:Bool) (ms:List Mode) (r:V)
 | co (g:Bool) (ms:List Mode) (z:Nat) (rows:List (List V)) (m:Nat)
 | cd (g:Bool) (ms:List Mode) (z:Nat) (rows:List (List V)) (m:Nat)
 | any (v:V) (ob:Option Ob)
structure Rs where
 v:V
 ob:Option Ob
 φ:Option Prop
def Rs.holds (r:Rs):Prop:=match r.φ with
 | none=>True
 | some p=>p
def evs (f:Operand->O_ V):L_ Operand->O_ (L_ V)
 | []=>X []
 | x::r=>match f x with
  | some v=>match evs f r with
   | some vs=>X (v::vs)
   | none=>none
  | none=>none
def evp (f:Operand->O_ V):L_ (Nat×Operand)->O_ S_
 | []=>X []
 | (i,x)::r=>match f x with
  | some v=>match evp f r with
   | some vs=>X ((i,v)::vs)
   | none=>none
  | none=>none
def Qqe (hp:Nat->O_ Ob)(g:Bool)(m:Mode)(v:V):O_ (V×O_ Prop):=match m with
 | .d=>bif v.datA then X (v,none)else none
 | .n z=>match v with
  | .lit (.slice none 0 0)=>X (.sl z [],none)
  | _=>none
 | .o us=>match v with
  | .own b n=>match hp b with
   | some (.arr z rs)=>bif g then X (.sl z us,X (n<=rs.length/\rs.take n=us))else none
   | _=>none
  | _=>none
 | .f _=>none
 | .t b=>match v with
  | .lit x=>match hp b with
   | some (.nst y u)=>bif g then X (u,X (x=y))else none
   | _=>none
  | _=>none
def Qwk (φ:O_ Prop)(p:Prop):Prop:=match φ with
 | none=>p
 | some q=>q/\p
def Qdc (hp:Nat->O_ Ob)(g:Bool):L_ Mode->L_ V->O_ (L_ V×(Prop->Prop))
 | [],[]=>X ([],id)
 | m::ms,v::vs=>match Qqe hp g m v with
  | some (u,φ)=>match Qdc hp g ms vs with
   | some (us,k)=>X (u::us,λp=>Qwk φ (k p))
   | none=>none
  | none=>none
 | _,_=>none
def ikB : IntKind->IntKind->Bool
 | .i8,.i8 | .i16,.i16 | .i32,.i32 | .i64,.i64 | .u8,.u8 | .u16,.u16 | .u32,.u32 | .u64,.u64=>true
 | _,_=>false
def Qol {a b:IntKind}(h:ikB a b=true):a=b:=by cases a<;>cases b<;>first | rfl | cases h
def QsE (T:Uh)(op:BinOp)(h:TypeId):V->V->O_ Rs
 | .i k m,.i O n=>bif ikB k O then match op with
  | .quo=>X ⟨.i k (k.wrap (m.tdiv n)),none,X (n≠0)⟩
  | .rem=>X ⟨.i k (m.tmod n),none,X (n≠0)⟩
  | op=>match Qqa op k m n with
   | some v=>X ⟨v,none,none⟩
   | none=>none
  else none
 | .b m,.b n=>bif XM T.bo h then match op with
  | .eql=>X ⟨.b (m==n),none,none⟩
  | .neq=>X ⟨.b (m != n),none,none⟩
  | _=>none
  else none
 | .s m,.s n=>match op with
  | .eql=>X ⟨.b (Kq m n),none,none⟩
  | .neq=>X ⟨.b (!Kq m n),none,none⟩
  | _=>none
 | _,_=>none
def unV (op:UnOp):V->O_ Rs
 | .b t=>match op with
  | .not=>X ⟨.b (!t),none,none⟩
  | _=>none
 | .i k m=>match op with
  | .neg=>X ⟨.i k (k.wrap (0-m)),none,none⟩
  | _=>none
 | _=>none
def QfF (T:Uh)(O:TypeId)(h:L_ V)(off:Nat)(φ:O_ Prop):O_ Rs:=
 match look T.ag O with
 | some true=>match look T.sz O with
  | some n=>bif Nat.ble (off+n) h.length then X ⟨.agg ((h.drop off).take n),none,φ⟩else none
  | none=>none
 | some false=>match h[off]? with
  | some v=>X ⟨v,none,φ⟩
  | none=>none
 | none=>none
def Qqf (T:Uh)(h:WK)(O:TypeId)(hp:Nat->O_ Ob):V->O_ Rs
 | .loc b i off=>match hp b with
  | some (.var cs)=>match i with
   | 0=>QfF T O cs off none
   | _=>none
  | some (.arr _ rs)=>match h with
   | .row r=>QfF T O r off (X (rs[i]? = X r))
   | _=>none
  | _=>none
 | .ro cs=>QfF T O cs 0 none
 | _=>none
def Qom (T:Uh)(h:TypeId)(i:Nat):V->O_ Rs
 | .loc b k off=>match look T.fo h with
  | some l=>match l[i]? with
   | some n=>X ⟨.loc b k (off+n),none,none⟩
   | none=>none
  | none=>none
 | .ro O=>match look T.fo h with
  | some l=>match l[i]? with
   | some n=>X ⟨.ro (O.drop n),none,none⟩
   | none=>none
  | none=>none
 | _=>none
def Qon (T:Uh)(h:WK)(O:TypeId)(hp:Nat->O_ Ob):V->V->O_ Rs
 | .sl z rows,.i _ j=>match look T.es O with
  | some p=>match h with
   | .row r=>bif Nat.beq z p.2.1 then X ⟨.ro r,none,X (0<=j/\rows[j.toNat]? = X r)⟩else none
   | _=>none
  | none=>none
 | .own b n,.i _ j=>match look T.es O with
  | some p=>match hp b with
   | some (.arr z _)=>bif Nat.beq z p.2.1 then X ⟨.loc b j.toNat 0,none,X (0<=j/\j<(n:Int))⟩else none
   | _=>none
  | none=>none
 | .loc b i m,.i _ j=>match look T.ar O with
  | some p=>bif decide (0<=j)&&decide (j<(p.1:Int))then X ⟨.loc b i (m+j.toNat*p.2),none,none⟩else none
  | none=>none
 | .ro cs,.i _ j=>match look T.ar O with
  | some p=>bif decide (0<=j)&&decide (j<(p.1:Int))then X ⟨.ro (cs.drop (j.toNat*p.2)),none,none⟩else none
  | none=>none
 | _,_=>none
def QsF (T:Uh)(h:WK)(O:TypeId):V->O_ Rs
 | .sl _ rows=>bif (look T.es O).isSome then match h with
  | .ln m=>X ⟨.i .i64 m,none,X (rows.length=m)⟩
  | _=>X ⟨.i .i64 rows.length,none,none⟩
  else none
 | .own _ n=>bif (look T.es O).isSome then X ⟨.i .i64 n,none,none⟩else none
 | .lit (.slice none 0 0)=>bif (look T.es O).isSome then X ⟨.i .i64 0,none,none⟩else none
 | .s s=>bif XM T.sb O then X ⟨.i .i64 s.size,none,none⟩else none
 | _=>none
def mkV (T:Uh)(h:WK)(O d:TypeId):V->V->O_ Rs
 | .i _ l,.i _ c=>match look T.es O with
  | some p=>match look T.zv p.1 with
   | some zs=>match h with
    | .rows rs=>bif Nat.beq zs.length p.2.1&&!(Nat.beq p.2.1 0)&&zs.all V.one&&Nat.ble p.2.2 32768 then
     X ⟨.own d l.toNat,X (.arr p.2.1 rs),X ((decide (0<=l)&&decide (l<=c)&&decide (c<=4294967296))=true/\List.replicate l.toNat zs=rs)⟩else none
    | _=>none
   | none=>none
  | none=>none
 | _,_=>none
def mmV (mx:Bool):V->V->O_ Rs
 | .i k m,.i h n=>bif ikB k h then bif mx then X ⟨.i k (Vm.max2 m n),none,none⟩else X ⟨.i k (Vm.min2 m n),none,none⟩else none
 | _,_=>none
def Qn7 (P:Program)(C:Xr)(T:Uh)(h:WK)(hp:Nat->O_ Ob)(d fn:Nat)(vs:L_ V):O_ Rs:=
 bif XM T.en fn then match h with
 | .c g ms r=>match Qdc hp g ms vs with
  | some (us,k)=>bif (!g&&r.datA)||r.scaA then X ⟨r,none,X (k (QP P fn us [] (Gives r [])))⟩else none
  | none=>none
 | .co g ms z rows m=>match Qdc hp g ms vs with
  | some (us,k)=>X ⟨.own d m,X (.arr z rows),X (k (QP P fn us [] (Gives (.own 600 m) [(600,.arr z rows)])/\rows.length=m/\(g=false\/∀r∈rows,∀v∈r,v.sca=true)))⟩
  | none=>none
 | .cd g ms z rows m=>match Qdc hp g ms vs with
  | some (us,k)=>bif !g then X ⟨.sl z rows,none,X (k (QP P fn us [] (Gives (.own 600 m) [(600,.arr z rows)])/\rows.length=m))⟩else none
  | none=>none
 | _=>none
 else none
def ev1 (P:Program)(C:Xr)(T:Uh)(h:WK)(o:Oper)(d:Nat)(f:Operand->O_ V)(hp:Nat->O_ Ob):O_ Rs:=
 match h with
 | .any v ob=>X ⟨v,ob,X (∀σ:St,(∀x u,f x=X u->σ.opd x=X u)->(∀b u,hp b=X u->look σ.hp b=X u)->(ob.isSome=true->look σ.hp d=none)->Qc P C o σ (σ.addF ⟨d,v,ob⟩))⟩
 | h=>match o.op with
  | .move x=>match f x with
   | some v=>X ⟨v,none,none⟩
   | none=>none
  | .assign x=>match f x with
   | some v=>X ⟨v,none,none⟩
   | none=>none
  | .pick c a b=>match f c with
   | some (.b true)=>match f a with
    | some v=>X ⟨v,none,none⟩
    | none=>none
   | some (.b false)=>match f b with
    | some v=>X ⟨v,none,none⟩
    | none=>none
   | _=>none
  | .binOp op O x y _=>match f x with
   | some v=>match f y with
    | some u=>QsE T op O v u
    | none=>none
   | none=>none
  | .unOp op _ x=>match f x with
   | some v=>unV op v
   | none=>none
  | .alloc O=>match look T.zv O with
   | some zs=>X ⟨.loc d 0 0,X (.var zs),none⟩
   | none=>none
  | .box _ x=>match f x with
   | some (.agg cs)=>X ⟨.loc d 0 0,X (.var cs),none⟩
   | some v=>bif v.one then X ⟨.loc d 0 0,X (.var [v]),none⟩else none
   | none=>none
  | .load O x=>match f x with
   | some v=>Qqf T h O hp v
   | none=>none
  | .fieldAddr O x i=>match f x with
   | some v=>Qom T O i v
   | none=>none
  | .indexAddr O x y=>match f x with
   | some v=>match f y with
    | some u=>Qon T h O hp v u
    | none=>none
   | none=>none
  | .build O parts=>match evp f parts.toList with
   | some qs=>match look T.zv O with
    | some zs=>bif qs.all (λq=>q.2.isV)then match look T.sp O with
      | some pl=>match UX (pl[·]?) zs qs with
       | some vs=>X ⟨.agg vs,none,none⟩
       | none=>none
      | none=>match look T.ar O with
       | some p=>match UX (λi=>X (i*p.2,p.2)) zs qs with
        | some vs=>X ⟨.agg vs,none,none⟩
        | none=>none
       | none=>none
     else none
    | none=>none
   | none=>none
  | .buildSlice O n parts=>match evp f parts.toList with
   | some qs=>match look T.es O with
    | some p=>match look T.zv p.1 with
     | some zs=>bif qs.all (λq=>q.2.isV)&&Nat.beq zs.length p.2.1&&!(Nat.beq p.2.1 0)&&Nat.ble (n*p.2.1) 16777216 then
      match UX (λi=>X (i*p.2.1,p.2.1)) ((List.range (n*p.2.1)).map λk=>zs.getD (k % p.2.1) .J) qs with
      | some vs=>match h with
       | .bd ms=>bif (Gs ms vs).all V.one&&(Gs ms vs).all V.dat then X ⟨.sl p.2.1 (HT p.2.1 n (Gs ms vs)),none,none⟩else none
       | _=>bif vs.all V.one&&vs.all V.dat then X ⟨.own d n,X (.arr p.2.1 (HT p.2.1 n vs)),none⟩else none
      | none=>none
      else none
     | none=>none
    | none=>none
   | none=>none
  | .extract x i=>match f x with
   | some (.tup vs)=>match vs[i]? with
    | some v=>X ⟨v,none,none⟩
    | none=>none
   | _=>none
  | .nilCheck x=>match f x with
   | some (.loc b i k)=>X ⟨.loc b i k,none,none⟩
   | _=>none
  | .makeInterface O x=>match f x with
   | some v=>bif XM T.cc O then X ⟨.ifc O v,none,none⟩else none
   | none=>none
  | .typeAssert x _ O false=>match f x with
   | some (.ifc t v)=>bif Nat.beq t O&&XM T.cc O then X ⟨v,none,none⟩else none
   | _=>none
  | .makeFunc fn first caps=>match evs f first.toList with
   | some vs=>match evs f caps.toList with
    | some us=>X ⟨.clo fn vs us,none,none⟩
    | none=>none
   | none=>none
  | .index O x y=>match f x with
   | some (.s s)=>match f y with
    | some (.i _ j)=>match h with
     | .num r=>bif XM T.sb O then X ⟨.i .u8 r,none,X (sidx s j=X r)⟩else none
     | _=>none
    | _=>none
   | _=>none
  | .makeSlice O x y=>match f x with
   | some v=>match f y with
    | some u=>mkV T h O d v u
    | none=>none
   | none=>none
  | .makeMap _ none=>X ⟨.map d,X (.map []),none⟩
  | .call c=>match c.callee with
   | .builtin .max=>match c.args.toList with
    | [x,y]=>match f x with
     | some v=>match f y with
      | some u=>mmV true v u
      | none=>none
     | none=>none
    | _=>none
   | .builtin .min=>match c.args.toList with
    | [x,y]=>match f x with
     | some v=>match f y with
      | some u=>mmV false v u
      | none=>none
     | none=>none
    | _=>none
   | .builtin .len=>match c.args.toList with
    | [x]=>match c.argTypes.toList with
     | [O]=>match f x with
      | some v=>QsF T h O v
      | none=>none
     | _=>none
    | _=>none
   | .value x=>match f x with
    | some (.clo (.func fn) fs cs)=>match evs f c.args.toList with
     | some vs=>Qn7 P C T h hp d fn (fs++(vs++cs))
     | none=>none
    | _=>none
   | _=>none
  | _=>none
section
variable {P:Program}{C:Xr}{T:Uh}{o:Oper}{d:Nat}{f:Operand->O_ V}{hp:Nat->O_ Ob}{σ:St}
def AM (h1:∀x u,f x=X u->σ.opd x=X u):∀{l:L_ Operand} {vs:L_ V},evs f l=X vs->σ.opsV l=X vs:=by
 intro l
 induction l with
 | nil=>intro vs h;exact h
 | cons x l ih=>
  intro vs h;rw[evs]at h;split at h
  ·rename_i v hv;split at h
   ·rename_i us O;cases h;simp only[St.opsV,h1 _ _ hv,ih O]
   cases h
  cases h
def AN (h1:∀x u,f x=X u->σ.opd x=X u):∀{l:L_ (Nat×Operand)} {vs:S_},evp f l=X vs->σ.opds l=X vs:=by
 intro l
 induction l with
 | nil=>intro vs h;exact h
 | cons x l ih=>
  intro vs h;obtain⟨i,x⟩:=x;rw[evp]at h;split at h
  ·rename_i v hv;split at h
   ·rename_i us O;cases h;simp only[St.opds,h1 _ _ hv,ih O]
   cases h
  cases h
def Ya {α:Type _}{c:Bool}{x:O_ α}{r:α}(h:(bif c then x else none)=X r):c=true/\x=X r:=by
 cases c with
 | true=>exact⟨rfl,h⟩
 | false=>cases h
def QhU (h2:∀b u,hp b=X u->look σ.hp b=X u){g:Bool}{m:Mode}{v u:V}{φ:O_ Prop}(h:Qqe hp g m v=X (u,φ))(O:(match φ with | none=>True | some p=>p)):SL σ.hp g v u:=by
 unfold Qqe at h;cases m with
 | d=>obtain⟨hd,h⟩:=Ya h;cases h;exact .dat _ hd
 | n z=>
  dsimp only at h;split at h
  ·cases h;exact .nil _
  cases h
 | o us=>
  dsimp only at h;split at h
  ·dsimp only at h;split at h
   ·rename_i z rs hb;obtain⟨hg,h⟩:=Ya h;subst hg;cases h;exact .own _ _ _ _ _ rfl (h2 _ _ hb) O.1 O.2
   cases h
  cases h
 | f n=>cases h
 | t b=>
  dsimp only at h;split at h
  ·dsimp only at h;split at h
   ·rename_i y u hb;obtain⟨hg,h⟩:=Ya h;subst hg;cases h;have O:_=_:=O;subst O;exact .nst _ _ _ rfl (h2 _ _ hb)
   cases h
  cases h
def Qak (h2:∀b u,hp b=X u->look σ.hp b=X u){g:Bool}:∀{ms:L_ Mode} {vs us:L_ V} {k:Prop->Prop},Qdc hp g ms vs=X (us,k)->∀{p:Prop},k p->On σ.hp g vs us/\p:=by
 intro ms
 induction ms with
 | nil=>
  intro vs us k h p O;cases vs with
  | nil=>cases h;exact⟨.nil,O⟩
  | cons=>cases h
 | cons m ms ih=>
  intro vs us k h p O;cases vs with
  | nil=>cases h
  | cons v vs=>
   rw[Qdc]at h;split at h
   ·rename_i u φ hu;split at h
    ·rename_i us' k' hus;cases h;cases φ with
     | none=>obtain⟨a,b⟩:=ih hus O;exact⟨.cons (QhU h2 hu trivial) a,b⟩
     | some q=>obtain⟨a,b⟩:=ih hus O.2;exact⟨.cons (QhU h2 hu O.1) a,b⟩
    cases h
   cases h
def Qd1 {O:TypeId}{cs:L_ V}{off:Nat}{φ:O_ Prop}{r:Rs}(ok:Gc P T)(h:QfF T O cs off φ=X r):
  r.ob=none/\r.φ=φ/\((UD P O=X true/\∃n,Bn P O=X n/\Nat.ble (off+n) cs.length=true/\r.v=.agg ((cs.drop off).take n))\/(UD P O=X false/\cs[off]? = X r.v)):=by
 unfold QfF at h;split at h
 ·rename_i hg;split at h
  ·rename_i n hn;obtain⟨h1,h⟩:=Ya h;cases h;exact⟨rfl,rfl,.inl ⟨ok.ag hg,n,ok.sz hn,h1,rfl⟩⟩
  cases h
 ·rename_i hg;split at h
  ·rename_i v hv;cases h;exact⟨rfl,rfl,.inr ⟨ok.ag hg,hv⟩⟩
  cases h
 cases h
def YM (P:Program)(C:Xr)(o:Oper)(d:Nat)(r:Rs)(σ:St):Prop:=Qc P C o σ (σ.addF ⟨d,r.v,r.ob⟩)
def YM.put {r:Rs}(O:r.ob=none)(h:Qc P C o σ (σ.put d r.v)):YM P C o d r σ:=by
 obtain⟨v,ob,φ⟩:=r;cases O;exact h
def Qpx {h:WK}{Tx:TypeId}{x:Operand}{v:V}{r:Rs}(ok:Gc P T)(ho:o.op=.load Tx x)(hd:o.dst=X d)(hn:B_ d C)(hx:σ.opd x=X v)
  (h2:∀b u,hp b=X u->look σ.hp b=X u) (e:Qqf T h Tx hp v=X r) (hφ:r.holds):YM P C o d r σ:=by
 unfold Qqf at e;split at e
 ·rename_i b i off;split at e
  ·rename_i cs hb;split at e
   ·obtain⟨e1,e2,⟨O,n,e4,e5,e6⟩|⟨O,e4⟩⟩:=Qd1 ok e
    ·refine YM.put e1 ?_;rw[e6];exact Qc.loadAL ho hd hn hx (h2 _ _ hb) O e4 e5 rfl
    exact YM.put e1 (Qc.load1L ho hd hn hx (h2 _ _ hb) O e4)
   cases e
  ·rename_i z rs hb;split at e
   ·rename_i r';obtain⟨e1,e2,⟨O,n,e4,e5,e6⟩|⟨O,e4⟩⟩:=Qd1 ok e
    ·rw[Rs.holds,e2]at hφ;refine YM.put e1 ?_;rw[e6];exact Qc.loadAA ho hd hn hx (h2 _ _ hb) O e4 hφ e5 rfl
    rw[Rs.holds,e2]at hφ;exact YM.put e1 (Qc.load1A ho hd hn hx (h2 _ _ hb) O hφ e4)
   cases e
  cases e
 ·rename_i cs;obtain⟨e1,e2,⟨O,n,e4,e5,e6⟩|⟨O,e4⟩⟩:=Qd1 ok e
  ·refine YM.put e1 ?_;rw[e6];rw[Gq]at e5;exact Qc.loadAR ho hd hn hx O e4 e5 rfl
  exact YM.put e1 (Qc.load1R ho hd hn hx O e4)
 cases e
def Qqg {op:BinOp}{Tx Ty:TypeId}{x y:Operand}{v u:V}{r:Rs}(ok:Gc P T)(ho:o.op=.binOp op Tx x y Ty)(h:o.dst=X d)(O:B_ d C)(hx:σ.opd x=X v)(hy:σ.opd y=X u)
  (e:QsE T op Tx v u=X r) (hφ:r.holds):YM P C o d r σ:=by
 unfold QsE at e;split at e
 ·rename_i k m k' n;replace e:=Ya e;obtain⟨e1,e⟩:=e;have:=Qol e1;subst this;split at e
  ·cases e;exact YM.put rfl (Qc.divi ho h O hx hy hφ (.inl ⟨rfl,rfl⟩))
  ·cases e;exact YM.put rfl (Qc.divi ho h O hx hy hφ (.inr ⟨rfl,rfl⟩))
  split at e
  ·rename_i w hw;cases e;exact YM.put rfl (Qc.bin ho h O hx hy hw)
  cases e
 ·replace e:=Ya e;obtain⟨e1,e⟩:=e;split at e
  ·cases e;exact YM.put rfl (Qc.eqB ho h O hx hy (ok.bo e1) (.inl ⟨rfl,rfl⟩))
  ·cases e;exact YM.put rfl (Qc.eqB ho h O hx hy (ok.bo e1) (.inr ⟨rfl,rfl⟩))
  cases e
 ·split at e
  ·cases e;exact YM.put rfl (Qc.eqS ho h O hx hy (.inl ⟨rfl,rfl⟩))
  ·cases e;exact YM.put rfl (Qc.eqS ho h O hx hy (.inr ⟨rfl,rfl⟩))
  cases e
 cases e
def Qoo {Tx:TypeId}{i:Nat}{x:Operand}{v:V}{r:Rs}(ok:Gc P T)(ho:o.op=.fieldAddr Tx x i)(hd:o.dst=X d)(hn:B_ d C)(hx:σ.opd x=X v)
  (e:Qom T Tx i v=X r):YM P C o d r σ:=by
 unfold Qom at e;split at e
 ·split at e
  ·rename_i l O;split at e
   ·rename_i n h;cases e;exact YM.put rfl (Qc.fieldL ho hd hn hx (ok.fo O h))
   cases e
  cases e
 ·split at e
  ·rename_i l O;split at e
   ·rename_i n h;cases e;exact YM.put rfl (Qc.fieldR ho hd hn hx (ok.fo O h) rfl)
   cases e
  cases e
 cases e
def Qop {h:WK}{Tx:TypeId}{x y:Operand}{v u:V}{r:Rs}(ok:Gc P T)(ho:o.op=.indexAddr Tx x y)(hd:o.dst=X d)(hn:B_ d C)(hx:σ.opd x=X v)(hy:σ.opd y=X u)
  (h2:∀b u,hp b=X u->look σ.hp b=X u) (e:Qon T h Tx hp v u=X r) (hφ:r.holds):YM P C o d r σ:=by
 unfold Qon at e;split at e
 ·split at e
  ·rename_i p O;split at e
   ·replace e:=Ya e;obtain⟨e1,e⟩:=e;obtain⟨pe,pz,pb⟩:=p;have:=Nat.eq_of_beq_eq_true e1;dsimp only at this;subst this;cases e;exact YM.put rfl (Qc.idxS ho hd hn hx hy (ok.es O) hφ.1 hφ.2)
   cases e
  cases e
 ·split at e
  ·rename_i p O;split at e
   ·rename_i z rs hb;replace e:=Ya e;obtain⟨e1,e⟩:=e;obtain⟨pe,pz,pb⟩:=p;have:=Nat.eq_of_beq_eq_true e1;dsimp only at this;subst this;cases e;exact YM.put rfl (Qc.idxO ho hd hn hx hy (ok.es O) (h2 _ _ hb) hφ.1 hφ.2)
   cases e
  cases e
 ·split at e
  ·rename_i p O;replace e:=Ya e;obtain⟨e1,e⟩:=e;rw[QH,QG,QG]at e1;cases e;exact YM.put rfl (Qc.idxAL ho hd hn hx hy (ok.ar O) e1.1 e1.2 rfl)
  cases e
 ·split at e
  ·rename_i p O;replace e:=Ya e;obtain⟨e1,e⟩:=e;rw[QH,QG,QG]at e1;cases e;exact YM.put rfl (Qc.idxAR ho hd hn hx hy (ok.ar O) e1.1 e1.2 rfl)
  cases e
 cases e
def Qqh {h:WK}{Tx:TypeId}{x:Operand}{v:V}{r:Rs}(ok:Gc P T)(ho:o.op=.call { callee:=.builtin .len,args:=#[x],argTypes:=#[Tx] })(hd:o.dst=X d)(hn:B_ d C)(hx:σ.opd x=X v)
  (e:QsF T h Tx v=X r) (hφ:r.holds):YM P C o d r σ:=by
 have es:∀{t:Nat},(look T.es t).isSome=true->∃p,Yp P t=X p:=λ{t} h=>by
  cases hl:look T.es t with
  | none=>rw[hl]at h;cases h
  | some p=>exact⟨p,ok.es hl⟩
 unfold QsF at e;split at e
 ·replace e:=Ya e;obtain⟨e1,e⟩:=e;obtain⟨p,O⟩:=es e1;split at e
  ·cases e;exact YM.put rfl (Qc.lenS' ho hd hn hx O hφ)
  cases e;exact YM.put rfl (Qc.lenS ho hd hn hx O)
 ·replace e:=Ya e;obtain⟨e1,e⟩:=e;obtain⟨p,O⟩:=es e1;cases e;exact YM.put rfl (Qc.lenO ho hd hn hx O)
 ·replace e:=Ya e;obtain⟨e1,e⟩:=e;obtain⟨p,O⟩:=es e1;cases e;exact YM.put rfl (Qc.lenN ho hd hn hx O)
 ·replace e:=Ya e;obtain⟨e1,e⟩:=e;cases e;exact YM.put rfl (Qc.lenStr ho hd hn hx (ok.sb e1))
 cases e
def QmY {mx:Bool}{x y:Operand}{v u:V}{ts:Array TypeId}{r:Rs}(ho:o.op=.call { callee:=.builtin (if mx then .max else .min),args:=#[x,y],argTypes:=ts })(h:o.dst=X d)(O:B_ d C)(hx:σ.opd x=X v)(hy:σ.opd y=X u)
  (e:mmV mx v u=X r):YM P C o d r σ:=by
 unfold mmV at e;split at e
 ·replace e:=Ya e;obtain⟨e1,e⟩:=e;have:=Qol e1;subst this;cases mx with
  | true=>cases e;exact YM.put rfl (Qc.max2 ho h O hx hy)
  | false=>cases e;exact YM.put rfl (Qc.min2 ho h O hx hy)
 cases e
def Qrm {h:WK}{Tx:TypeId}{x y:Operand}{v u:V}{r:Rs}(ok:Gc P T)(ho:o.op=.makeSlice Tx x y)(hd:o.dst=X d)(hn:B_ d C)(hx:σ.opd x=X v)(hy:σ.opd y=X u)
  (e:mkV T h Tx d v u=X r) (hφ:r.holds) (hf:r.ob.isSome=true->look σ.hp d=none):YM P C o d r σ:=by
 unfold mkV at e;split at e
 ·split at e
  ·rename_i p O;split at e
   ·rename_i zs hz;split at e
    ·replace e:=Ya e;obtain⟨e1,e⟩:=e;simp only[QH,Di]at e1;obtain⟨⟨⟨a1,a2⟩,a3⟩,a4⟩:=e1;cases e;exact Qc.make' ho hd hn hx hy (ok.es O) (ok.zv hz) (Ye a1) (λh0=>by rw[h0]at a2;cases a2) a3 hφ.1 a4 (hf rfl) hφ.2
    cases e
   cases e
  cases e
 cases e
def Gives.own {fn:Nat}{us:L_ V}{z m:Nat}{rows:L_ (L_ V)}(h:QP P fn us [] (Gives (.own 600 m) [(600,.arr z rows)]))(O:rows.length=m):QP P fn us [] (QjR z rows):=
 h.mono λv hs ⟨a,b⟩=>⟨600,by rw[a,O],b _ _ rfl⟩
def Ki.toData {P:Program}{β:Nat}{f:FuncId}{us:L_ V}{m z:Nat}{rows:L_ (L_ V)}(h:Ki β P f us [] (Gives (.own 600 m) [(600,.arr z rows)]))(hm:rows.length=m):Ki β P f us [] (Gives (.sln β z rows) []):=by
 subst hm;intro S φ w vals hβ hi hG;refine(h S φ w vals hβ hi hG).mono ?_;rintro e w' ⟨x,v,hs',φ',rfl,⟨rfl,hl⟩,ho⟩;have hl:=hl 600 _ rfl;have hφ:∀o B,φ o≠X B:=λo B hB=>by obtain⟨ob,h⟩:=(hi.dom o B hB).2.2;cases h
 have hA:∀k,Aft S φ' w w' k->Aft S (λ_=>none) w w' k:=λk hk=>⟨hk.1,hk.2.1,λ_ _ h=>by cases h⟩;refine⟨x,.sln β z rows,[],λ_=>none,rfl,⟨rfl,λ_ _ h=>by cases h⟩,ho.os,ho.tape,ho.output,ho.size,ho.kept,λ_ _ _ _ _ h=>(by cases h),λ_ _ h=>(by cases h),λ_ _ _ h=>(by cases h),λ_ _ _ h=>(by cases h),⟨λ_ _ _ h=>(by cases h),λ_ _ _ _ h=>(by cases h)⟩,?_,λ_ _ h=>(by cases h)⟩;rcases ho.heap 600 _ hl with⟨B,hB,hrep⟩|⟨hn,hz⟩
 ·rcases ho.rep.own_inv with⟨rfl,h0⟩|⟨B',O,hcap,rfl⟩
  ·have:rows=[]:=PP.1 h0;subst this;exact .dat (.sln0 _ _ _ _)
  rw[hB]at O;cases O;obtain⟨rfl,hrl,hok,cs,E,h1,h2,h3⟩:=hrep;have hnew:=ho.new _ B B.b hB B.self (by decide);have hle2:rows.length*B.z<=B.cap*B.z:=Jb _ hcap;refine .dat (.sln β B.b B.off rows.length B.cap B.z rows cs E (YC hβ hnew) ⟨(ho.lt _ B B.b hB B.self).1,λhlt=>by omega,λ_ _ h=>by cases h⟩ rfl hcap hok h1 (by omega) (λi r hi j v hj=>?_));obtain⟨y,hy,hd⟩:=h3 i r hi j v hj;have:cs.getD (B.off+(i*B.z+j)) undef=y:=by simp[Qcx,hy]
  rw[this];exact hd.mono λk hk=>⟨hA k hk,rfl⟩
 replace hz:rows=[]:=hz;subst hz;rcases ho.rep.own_inv with⟨rfl,h0⟩|⟨B',O,hcap,rfl⟩
 ·exact .dat (.sln0 _ _ _ _)
 rw[hn]at O;cases O
def Qpy {h:WK}{fn:Nat}{vs:L_ V}{r:Rs}(ok:Gc P T)(hE:Ju P C o σ fn vs)(hd:o.dst=X d)(hn:B_ d C)(O:C.pg P)
  (h2:∀b u,hp b=X u->look σ.hp b=X u) (e:Qn7 P C T h hp d fn vs=X r) (hφ:r.holds) (hf:r.ob.isSome=true->look σ.hp d=none):YM P C o d r σ:=by
 unfold Qn7 at e;replace e:=Ya e;obtain⟨e1,e⟩:=e;split at e
 ·split at e
  ·rename_i us k hv;replace e:=Ya e;obtain⟨e2,e⟩:=e;cases e;obtain⟨a1,a2⟩:=Qak h2 hv hφ;refine YM.put rfl (Qc.callE hE hd hn O a1 (a2.mono λ_ _ h=>h.1) ?_);rw[KT,QH]at e2;exact e2.imp (λh=>⟨by simpa using h.1,h.2⟩) id
  cases e
 ·split at e
  ·rename_i us k hv;cases e;obtain⟨a1,a2,a3,a4⟩:=Qak h2 hv hφ;exact Qc.callOE hE hd hn O a1 (Gives.own a2 a3) a4 (hf rfl) a3
  cases e
 ·split at e
  ·rename_i us k hv;replace e:=Ya e;obtain⟨e2,e⟩:=e;cases e;obtain⟨a1,a2,a3⟩:=Qak h2 hv hφ;exact YM.put rfl (Qc.callE hE hd hn O a1 (Gives.own a2 a3).toData (.inl ⟨by simpa using e2,rfl⟩))
  cases e
 cases e
def QfG {h:WK}{r:Rs}(ok:Gc P T)(hd:o.dst=X d)(hn:B_ d C)(hpg:C.pg P)(h1:∀x u,f x=X u->σ.opd x=X u)(h2:∀b u,hp b=X u->look σ.hp b=X u)
  (e:ev1 P C T h o d f hp=X r) (hφ:r.holds) (hf:r.ob.isSome=true->look σ.hp d=none):YM P C o d r σ:=by
 unfold ev1 at e;split at e
 ·cases e;exact hφ σ h1 h2 hf
 split at e
 ·rename_i x O;split at e
  ·rename_i v hv;cases e;exact YM.put rfl (Qc.move O hd hn (h1 _ _ hv))
  cases e
 ·rename_i x O;split at e
  ·rename_i v hv;cases e;exact YM.put rfl (Qc.assign O hd hn (h1 _ _ hv))
  cases e
 ·rename_i c a b O;split at e
  ·rename_i hc;split at e
   ·rename_i v hv;cases e;exact YM.put rfl (Qc.pickT O hd hn (h1 _ _ hc) rfl (h1 _ _ hv))
   cases e
  ·rename_i hc;split at e
   ·rename_i v hv;cases e;exact YM.put rfl (Qc.pickF O hd hn (h1 _ _ hc) rfl (h1 _ _ hv))
   cases e
  cases e
 ·rename_i op Tx x y Ty O;split at e
  ·rename_i v hv;split at e
   ·rename_i u hu;exact Qqg ok O hd hn (h1 _ _ hv) (h1 _ _ hu) e hφ
   cases e
  cases e
 ·rename_i op Tx x O;split at e
  ·rename_i v hv;unfold unV at e;split at e
   ·split at e
    ·cases e;exact YM.put rfl (Qc.not O hd hn (h1 _ _ hv))
    cases e
   ·split at e
    ·cases e;exact YM.put rfl (Qc.neg O hd hn (h1 _ _ hv))
    cases e
   cases e
  cases e
 ·rename_i Tx O;split at e
  ·rename_i zs hz;cases e;exact Qc.alloc O hd hn (ok.zv hz) (hf rfl)
  cases e
 ·rename_i Tx x O;split at e
  ·rename_i cs hv;cases e;exact Qc.box O hd hn (h1 _ _ hv) (.inr ⟨_,rfl⟩) (hf rfl)
  ·rename_i v hne hv;replace e:=Ya e;obtain⟨e1,e⟩:=e;cases e;have hc:v.cells=[v]:=by cases v<;>first | rfl | exact absurd rfl (hne _)
   have:=Qc.box (P:=P) O hd hn (h1 _ _ hv) (.inl e1) (hf rfl);rw[hc]at this;exact this
  cases e
 ·rename_i Tx x O;split at e
  ·rename_i v hv;exact Qpx ok O hd hn (h1 _ _ hv) h2 e hφ
  cases e
 ·rename_i Tx x i O;split at e
  ·rename_i v hv;exact Qoo ok O hd hn (h1 _ _ hv) e
  cases e
 ·rename_i Tx x y O;split at e
  ·rename_i v hv;split at e
   ·rename_i u hu;exact Qop ok O hd hn (h1 _ _ hv) (h1 _ _ hu) h2 e hφ
   cases e
  cases e
 ·rename_i Tx parts O;split at e
  ·rename_i qs hq;split at e
   ·rename_i zs hz;replace e:=Ya e;obtain⟨e1,e⟩:=e;split at e
    ·rename_i pl hpl;split at e
     ·rename_i vs hvs;cases e;exact YM.put rfl (Qc.build O hd hn (ok.zv hz) (ok.sp hpl) (AN h1 hq) e1 hvs)
     cases e
    split at e
    ·rename_i p hp';split at e
     ·rename_i vs hvs;cases e;exact YM.put rfl (Qc.buildA O hd hn (ok.zv hz) (ok.ar hp') (AN h1 hq) e1 hvs)
     cases e
    cases e
   cases e
  cases e
 ·rename_i Tx n parts O;split at e
  ·rename_i qs hq;split at e
   ·rename_i p hp';split at e
    ·rename_i zs hz;replace e:=Ya e;obtain⟨e1,e⟩:=e;split at e
     ·rename_i vs hvs;simp only[QH,Di]at e1;obtain⟨⟨⟨e3,e4⟩,e5⟩,e6⟩:=e1;have e4:=Ye e4;split at e
      ·replace e:=Ya e;obtain⟨e2,e⟩:=e;cases e;rw[QH]at e2;exact YM.put rfl (Qc.buildSliceD _ O hd hn (ok.es hp') (ok.zv hz) e4 (λh0=>by rw[h0]at e5;cases e5) (Jh e6) (AN h1 hq) e3 hvs e2.1 e2.2 rfl)
      replace e:=Ya e;obtain⟨e2,e⟩:=e;cases e;rw[QH]at e2;exact Qc.buildSlice O hd hn (ok.es hp') (ok.zv hz) e4 (λh0=>by rw[h0]at e5;cases e5) (Jh e6) (AN h1 hq) e3 hvs e2.1 e2.2 rfl (hf rfl)
     cases e
    cases e
   cases e
  cases e
 ·rename_i x i O;split at e
  ·rename_i vs hv;split at e
   ·rename_i v hv';cases e;exact YM.put rfl (Qc.extract O hd hn (h1 _ _ hv) hv')
   cases e
  cases e
 ·rename_i x O;split at e
  ·rename_i hv;cases e;exact YM.put rfl (Qc.nilCheckL O hd hn (h1 _ _ hv))
  cases e
 ·rename_i Tx x O;split at e
  ·rename_i v hv;replace e:=Ya e;obtain⟨e1,e⟩:=e;cases e;exact YM.put rfl (Qc.makeInterface O hd hn (h1 _ _ hv) (ok.cc e1))
  cases e
 ·rename_i x S Tx O;split at e
  ·rename_i t v hv;replace e:=Ya e;obtain⟨e1,e⟩:=e;rw[QH]at e1;have:=Ye e1.1;subst this;cases e;exact YM.put rfl (Qc.typeAssert O hd hn (h1 _ _ hv) (ok.cc e1.2))
  cases e
 ·rename_i fn first caps O
  split at e
  ·rename_i vs hv;split at e
   ·rename_i us hu;cases e;exact YM.put rfl (Qc.makeFunc O hd hn (AM h1 hv) (AM h1 hu))
   cases e
  cases e
 ·rename_i Tx x y O;split at e
  ·rename_i s hs;split at e
   ·rename_i k j hj;split at e
    ·replace e:=Ya e;obtain⟨e1,e⟩:=e;cases e;exact YM.put rfl (Qc.idxStr' O hd hn (h1 _ _ hs) (h1 _ _ hj) (ok.sb e1) hφ)
    cases e
   cases e
  cases e
 ·rename_i Tx x y O;split at e
  ·rename_i v hv;split at e
   ·rename_i u hu;exact Qrm ok O hd hn (h1 _ _ hv) (h1 _ _ hu) e hφ hf
   cases e
  cases e
 ·rename_i O;cases e;exact Qc.makeMap O hd hn (hf rfl)
 ·rename_i c O;obtain⟨cl,ags,ts⟩:=c;split at e
  ·rename_i hc;dsimp only at hc e;subst hc;split at e
   ·rename_i x y hxy;split at e
    ·rename_i v hv;split at e
     ·rename_i u hu;have ea:ags=#[x,y]:=by rw[<-QbB (xs:=ags),hxy]
      subst ea;exact QmY (mx:=true) O hd hn (h1 _ _ hv) (h1 _ _ hu) e
     cases e
    cases e
   cases e
  ·rename_i hc;dsimp only at hc e;subst hc;split at e
   ·rename_i x y hxy;split at e
    ·rename_i v hv;split at e
     ·rename_i u hu;have ea:ags=#[x,y]:=by rw[<-QbB (xs:=ags),hxy]
      subst ea;exact QmY (mx:=false) O hd hn (h1 _ _ hv) (h1 _ _ hu) e
     cases e
    cases e
   cases e
  ·rename_i hc;dsimp only at hc e;subst hc;split at e
   ·rename_i x hx;split at e
    ·rename_i Tx hT;split at e
     ·rename_i v hv;have ea:ags=#[x]:=by rw[<-QbB (xs:=ags),hx]
      have et:ts=#[Tx]:=by rw[<-QbB (xs:=ts),hT]
      subst ea;subst et;exact Qqh ok O hd hn (h1 _ _ hv) e hφ
     cases e
    cases e
   cases e
  ·rename_i x hc;dsimp only at hc e;subst hc;split at e
   ·rename_i fn fs cs hx;split at e
    ·rename_i vs hv;have e1:XM T.en fn=true:=by unfold Qn7 at e;exact(Ya e).1
     exact Qpy ok (Ju.clo O (h1 _ _ hx) (ok.en e1) (AM h1 hv)) hd hn hpg h2 e hφ hf
    cases e
   cases e
  cases e
 cases e
end
inductive Fr where
 | seq (y:Code)
 | blk (id:Nat)
 | cut (K:St->Prop)
inductive Pt where
 | c (c:Code)
 | o (ops:Array Oper) (l:List Oper)
 | x (e:Exit)
section
variable (P:Program)(C:Xr)(Q:Exit->St->Prop)
def unw : L_ Fr->Exit->St->Prop
 | []=>Q
 | .seq y::k=>QdO (λσ=>YE P C y σ (unw k)) (unw k)
 | .blk id::k=>Qaf id (unw k)
 | .cut K::k=>QdO K (unw k)
def AK (pt:Pt)(ks:L_ Fr)(σ:St):Prop:=match pt with
 | .c c=>YE P C c σ (unw P C Q ks)
 | .o ops l=>AL P C ops l σ (unw P C Q ks)
 | .x e=>∀a w,R C σ a w->up C (unw P C Q ks) e a w
end
section
variable {P:Program}{C:Xr}{Q:Exit->St->Prop}{σ σ':St}{ks:L_ Fr}
def AK.weaken {pt:Pt}(h:∀a w,R C σ a w->R C σ' a w)(k:AK P C Q pt ks σ'):AK P C Q pt ks σ:=by
 cases pt with
 | c c=>exact λa w O=>k a w (h a w O)
 | o ops l=>exact λa w O=>k a w (h a w O)
 | x e=>exact λa w O=>k a w (h a w O)
def AK.done {e:Exit}(h:Q e σ):AK P C Q (.x e) [] σ:=λa w O=>⟨σ,h,O⟩
def AK.met {K:St->Prop}(h:K σ):AK P C Q (.x .normal) (.cut K::ks) σ:=λa w O=>⟨σ,h,O⟩
def AK.seq {x y:Code}(h:AK P C Q (.c x) (.seq y::ks) σ):AK P C Q (.c (.seq x y)) ks σ:=YE.seq h
def AK.block {id:Nat}{x:Code}(h:AK P C Q (.c x) (.blk id::ks) σ):AK P C Q (.c (.block id x)) ks σ:=YE.block h
def AK.region {id:Nat}{ops:Array Oper}(h:AK P C Q (.o ops ops.toList) ks σ):AK P C Q (.c (.region id ops false)) ks σ:=YE.region h
def AK.skip (h:AK P C Q (.x .normal) ks σ):AK P C Q (.c .skip) ks σ:=λa w O=>wpIn_skip (h a w O)
def AK.label {l:Nat}(h:AK P C Q (.x .normal) ks σ):AK P C Q (.c (.label l)) ks σ:=λa w O=>wpIn_label (h a w O)
def AK.exit {id:Nat}(h:AK P C Q (.x (.exit id)) ks σ):AK P C Q (.c (.exit id)) ks σ:=λa w O=>wpIn_exit (h a w O)
def AK.ret (h:AK P C Q (.x .ret) ks σ):AK P C Q (.c .ret) ks σ:=λa w O=>wpIn_ret (h a w O)
def AK.nil {ops:Array Oper}(h:AK P C Q (.x .normal) ks σ):AK P C Q (.o ops []) ks σ:=h
def AK.popSeq {y:Code}(h:AK P C Q (.c y) ks σ):AK P C Q (.x .normal) (.seq y::ks) σ:=λa w O=>⟨σ,h,O⟩
def AK.popBlk {id:Nat}(h:AK P C Q (.x .normal) ks σ):AK P C Q (.x .normal) (.blk id::ks) σ:=h
def AK.exSeq {y:Code}{i:Nat}(h:AK P C Q (.x (.exit i)) ks σ):AK P C Q (.x (.exit i)) (.seq y::ks) σ:=h
def AK.exCut {K:St->Prop}{i:Nat}(h:AK P C Q (.x (.exit i)) ks σ):AK P C Q (.x (.exit i)) (.cut K::ks) σ:=h
def AK.exBlk {i j:Nat}(e:Nat.beq i j=true)(h:AK P C Q (.x .normal) ks σ):AK P C Q (.x (.exit i)) (.blk j::ks) σ:=λa w O=>
 let ⟨σ',h1,h2⟩:=h a w O;⟨σ',Qwi e h1,h2⟩
def AK.exBlk' {i j:Nat}(e:Nat.beq i j=false)(h:AK P C Q (.x (.exit i)) ks σ):AK P C Q (.x (.exit i)) (.blk j::ks) σ:=λa w O=>
 let ⟨σ',h1,h2⟩:=h a w O;⟨σ',Qwj e h1,h2⟩
def AK.retPop {f:Fr}(h:AK P C Q (.x .ret) ks σ):AK P C Q (.x .ret) (f::ks) σ:=by
 cases f<;>exact h
def AK.meet {x y:Code}(K:St->Prop)(h:AK P C Q (.c x) (.cut K::ks) σ)(O:∀σ',K σ'->AK P C Q (.c y) ks σ'):AK P C Q (.c (.seq x y)) ks σ:=YE.seqK K h O
def AK.meetX {c:Code}(K:St->Prop)(hx:AK P C Q (.c c) (.cut K::ks) σ)(hy:∀σ',K σ'->AK P C Q (.x .normal) ks σ'):AK P C Q (.c c) ks σ:=by
 intro a w hR;refine wpIn_mono (hx a w hR) ?_;rintro e a w ⟨σ',h,O⟩;cases e<;>first | exact hy σ' h a w O | exact⟨σ',h,O⟩
def Qoq {τ ρ:Type}(E:τ->St->Prop)(h:ρ->Exit->St->Prop)(o:τ⊕ρ):Exit->St->Prop:=
 QdO (λσ'=>∃O,o=.inl O/\E O σ') (λe σ'=>∃r,o=.inr r/\h r e σ')
def Qwl {τ ρ:Type}{E:τ->St->Prop}{O:ρ->Exit->St->Prop}{o:τ⊕ρ}{s':τ}(h:o=.inl s')(he:E s' σ):AK P C (Qoq E O o) (.x .normal) [] σ:=AK.done ⟨s',h,he⟩
def Qwm {τ ρ:Type}{E:τ->St->Prop}{O:ρ->Exit->St->Prop}{o:τ⊕ρ}{r:ρ}{i:Nat}(h:o=.inr r)(he:O r (.exit i) σ):AK P C (Qoq E O o) (.x (.exit i)) [] σ:=AK.done ⟨r,h,he⟩
def QwK {τ ρ:Type}{E:τ->St->Prop}{O:ρ->Exit->St->Prop}{o:τ⊕ρ}{r:ρ}(h:o=.inr r)(he:O r .ret σ):AK P C (Qoq E O o) (.x .ret) [] σ:=AK.done ⟨r,h,he⟩
def AK.loop {τ ρ:Type}{body:τ->O_ (τ⊕ρ)}{c:Code}(E:τ->St->Prop)(O:ρ->Exit->St->Prop){s0:τ}{r:ρ}(hr:Qt body s0=X r)(h0:E s0 σ)
  (round:∀s o σ,E s σ->body s=X o->AK P C (Qoq E O o) (.c c) [] σ) (hQ:∀e σ',O r e σ'->AK P C Q (.x e) ks σ'):AK P C Q (.c (.loop c)) ks σ:=by
 intro a w hR;refine wpIn_mono (YE.loop (Q:=λe σ'=>O r e σ') E O round (Vf.1 hr) h0 (λe σ' h=>h) a w hR) ?_;rintro e a' w' ⟨σ',hp,hR'⟩;exact hQ e σ' hp a' w' hR'
end
def V.isUnd : V->Bool
 | .lit (.tuple a)=>a.isEmpty
 | _=>false
def V.isUnd_eq {v:V}(h:v.isUnd=true):v=.lit undef:=by
 unfold V.isUnd at h;split at h
 ·rename_i a;rw[Array.isEmpty_iff]at h;subst h;rfl
 cases h
inductive Ent where
 | fn
 | clo
 | me (f:Nat)
 | mv (f e:Nat)
def Ex : L_ (Nat×Nat)->Nat->O_ Nat
 | [],_=>none
 | (b,h)::r,a=>bif Nat.beq h a then X b else Ex r a
def trC (bk:Nat->O_ Nat):V->O_ V
 | .own a n=>match bk a with
  | some b=>X (.own b n)
  | none=>none
 | .loc a i d=>match bk a with
  | some b=>X (.loc b i d)
  | none=>none
 | .map a=>match bk a with
  | some b=>X (.map b)
  | none=>none
 | .ifc t x=>match trC bk x with
  | some y=>X (.ifc t y)
  | none=>none
 | v=>bif v.datA then X v else none
def trL (bk:Nat->O_ Nat):L_ V->O_ (L_ V)
 | []=>X []
 | v::vs=>match trC bk v with
  | some u=>match trL bk vs with
   | some us=>X (u::us)
   | none=>none
  | none=>none
def trV (bk:Nat->O_ Nat):V->O_ V
 | .agg h=>bif (V.agg h).datA then X (.agg h)else match trL bk h with
  | some us=>X (.agg us)
  | none=>none
 | .tup h=>bif (V.tup h).datA then X (.tup h)else match trL bk h with
  | some us=>X (.tup us)
  | none=>none
 | .clo fn fs h=>match trL bk fs with
  | some us=>match trL bk h with
   | some ds=>X (.clo fn us ds)
   | none=>none
  | none=>none
 | v=>trC bk v
def Qor (bk:Nat->O_ Nat):L_ V->O_ (L_ V)
 | []=>X []
 | v::vs=>match trV bk v with
  | some u=>match Qor bk vs with
   | some us=>X (u::us)
   | none=>none
  | none=>none
def trO (bk:Nat->O_ Nat):Ob->O_ Ob
 | .var h=>match Qor bk h with
  | some us=>X (.var us)
  | none=>none
 | .lp l K h q=>match Qor bk h with
  | some us=>X (.lp l K us q)
  | none=>none
 | .arr z rs=>X (.arr z rs)
 | .map l=>X (.map l)
 | .grp z l O=>X (.grp z l O)
 | .tbl A z rs=>X (.tbl A z rs)
 | _=>none
def QuI (bk:Nat->O_ Nat):Mode->V->O_ V
 | .n z,.lit (.slice none 0 0)=>X (.sl z [])
 | .d,v=>trV bk v
 | .f n,.agg h=>match trL bk (h.set n .J)with
  | some us=>match us[n]? with
   | some .J=>X (.agg us)
   | _=>none
  | none=>none
 | _,_=>none
def PU (bk:Nat->O_ Nat):L_ Mode->L_ V->O_ (L_ V)
 | [],[]=>X []
 | m::ms,v::vs=>match QuI bk m v with
  | some u=>match PU bk ms vs with
   | some us=>X (u::us)
   | none=>none
  | none=>none
 | _,_=>none
def IJ (bk:Nat->O_ Nat)(src:Nat->O_ Ob):L_ (Nat×Nat)->O_ H_
 | []=>X []
 | (d,s)::r=>match src s with
  | some ob=>match trO bk ob with
   | some ob'=>match IJ bk src r with
    | some l=>X ((d,ob')::l)
    | none=>none
   | none=>none
  | none=>none
def QsG (P:Program)(T:Uh)(σ:St)(φ:Prop)(c:Call):Ent->O_ (Nat×L_ V×Prop)
 | .fn=>match c.callee with
  | .value (.func f)=>bif XM T.en f then match evs σ.opd c.args.toList with
   | some vs=>X (f,vs,φ)
   | none=>none
   else none
  | _=>none
 | .clo=>match c.callee with
  | .value x=>match σ.opd x with
   | some (.clo (.func f) fs h)=>bif XM T.en f then match evs σ.opd c.args.toList with
    | some vs=>X (f,fs++(vs++h),φ)
    | none=>none
    else none
   | _=>none
  | _=>none
 | .me f=>match c.callee with
  | .invoke x name=>match σ.opd x with
   | some (.ifc t u)=>bif XM T.en f then match evs σ.opd c.args.toList with
    | some vs=>X (f,u::vs,φ/\((Bo P t name=X (f,true)/\Qic P t=true)\/(Bo P t name=X (f,false)/\Qaj P t=true)))
    | none=>none
    else none
   | _=>none
  | _=>none
 | .mv f e=>match c.callee with
  | .invoke x name=>match σ.opd x with
   | some (.ifc t (.loc b 0 off))=>match look σ.hp b with
    | some (.var h)=>match h[off]? with
     | some r=>bif XM T.en f then match evs σ.opd c.args.toList with
      | some vs=>X (f,r::vs,φ/\(Bo P t name=X (f,false)/\QbL P t e=true/\UD P e=X false))
      | none=>none
      else none
     | none=>none
    | _=>none
   | _=>none
  | _=>none
def cmV (P:Program)(σ:St)(φ:Prop)(d f:Nat)(vs:L_ V)(M N:L_ (Nat×Nat))(dead:L_ Nat)(ms:L_ Mode)(outs:H_)(r:V):O_ (St×Prop):=
 bif GS σ M N dead outs&&Fd (M.map Prod.fst)&&Fd (N.map Prod.fst)then match PU (Ex M) ms vs with
  | some us=>match IJ (Ex M) (look σ.hp) M with
   | some h=>match IJ (Ex N) (look outs) N with
    | some O=>match trV (Ex N) r with
     | some r'=>X ((σ.after dead O).put d r',φ/\QP P f us h (Gives r outs))
     | none=>none
    | none=>none
   | none=>none
  | none=>none
 else none
inductive CL where
 | n (k:Nat)
 | o (h:WK)
 | v (h:WK) (ms:List (Option Nat)) (v:V)
 | br (b:Bool)
 | st (r:List V) (rs:List (List V))
 | app (rs:List (List V)) (m:Nat)
 | x (g:St->St)
 | say (t:Nat) (v:V)
 | sayO (b:Nat) (ob:Ob)
 | adopt (t b z:Nat)
 | denil (t:Nat) (ms:List (Option Nat))
 | denilO (b:Nat) (ms:List (Option Nat))
 | ren (o o':Nat)
 | kill (b:Nat)
 | keep (ts os:List Nat)
 | frz (b:Nat) (us:List (List V)) (ts os:List Nat)
 | adoptO (p i b z:Nat)
 | cm (en:Ent) (M N:List (Nat×Nat)) (dead:List Nat) (ms:List Mode) (outs:List (Nat×Ob)) (r:V)
structure Cfg where
 pt:Pt
 ks:List Fr
 σ:St
 φ:Prop
def Qal (φ:Prop):O_ Prop->Prop
 | none=>φ
 | some p=>φ/\p
def ctl : Pt->L_ Fr->St->O_ (Pt×L_ Fr)
 | .c (.seq x y),ks,_=>X (.c x,.seq y::ks)
 | .c (.block id x),ks,_=>X (.c x,.blk id::ks)
 | .c (.region _ ops false),ks,_=>X (.o ops ops.toList,ks)
 | .c .skip,ks,_=>X (.x .normal,ks)
 | .c (.label _),ks,_=>X (.x .normal,ks)
 | .c (.exit i),ks,_=>X (.x (.exit i),ks)
 | .c .ret,ks,_=>X (.x .ret,ks)
 | .c (.cond c x y),ks,σ=>match σ.opd c with
  | some (.b true)=>X (.c x,ks)
  | some (.b false)=>X (.c y,ks)
  | _=>none
 | .o _ [],ks,_=>X (.x .normal,ks)
 | .x .normal,.seq y::ks,_=>X (.c y,ks)
 | .x .normal,.blk _::ks,_=>X (.x .normal,ks)
 | .x (.exit i),.seq _::ks,_=>X (.x (.exit i),ks)
 | .x (.exit i),.cut _::ks,_=>X (.x (.exit i),ks)
 | .x (.exit i),.blk j::ks,_=>bif Nat.beq i j then X (.x .normal,ks)else X (.x (.exit i),ks)
 | .x .ret,_::ks,_=>X (.x .ret,ks)
 | _,_,_=>none
def Aa (ops:Array Oper)(o:Oper)(f:Nat->O_ V):O_ Bool:=match o.guard with
 | none=>X true
 | some (j,t)=>match ops[j]? with
  | some h=>match h.dst with
   | some d=>match f d with
    | some (.b true)=>X t
    | some (.b false)=>X (!t)
    | some v=>bif v.isUnd then X false else none
    | none=>none
   | none=>none
  | none=>none
def Qrn (T:Uh)(O:TypeId)(σ:St)(φ:Prop):V->V->O_ (St×Prop)
 | .loc b i off,v=>match look σ.hp b with
  | some (.var h)=>match i with
   | 0=>match look T.sz O with
    | some n=>bif v.isV&&Nat.beq v.cells.length n&&v.cells.all V.one&&Nat.ble (off+n) h.length then X (σ.set b (.var (Wl h off v.cells)),φ)else none
    | none=>none
   | _=>none
  | _=>none
 | _,_=>none
def storeA (T:Uh)(h:TypeId)(σ:St)(φ:Prop)(r:L_ V)(rs':L_ (L_ V)):V->V->O_ (St×Prop)
 | .loc b i off,v=>match look σ.hp b with
  | some (.arr z rs)=>match look T.sz h with
    | some n=>bif v.isV&&Nat.beq v.cells.length n&&v.cells.all V.one&&v.cells.all V.dat&&Nat.ble (off+n) z then
     X (σ.set b (.arr z rs'),φ/\(rs[i]? = X r/\rs.set i (Wl r off v.cells)=rs'))else none
    | none=>none
  | _=>none
 | _,_=>none
def JE (P:Program)(C:Xr)(T:Uh)(n:Nat)(h:WK)(O:O_ (L_ (O_ Nat)×V))(o:Oper)(σ:St)(φ:Prop):O_ (St×Prop):=match o.dst with
 | some d=>bif Nat.ble (d+1) n then match ev1 P C T h o d σ.opd (look σ.hp)with
  | some ⟨v,none,q⟩=>match O with
   | none=>X (σ.put d v,Qal φ q)
   | some (ms,u)=>X (σ.put d u,Qal φ q/\v.denil ms=u)
  | some ⟨v,X ob,q⟩=>match look σ.hp d with
   | none=>match O with
    | none=>X ((σ.set d ob).put d v,Qal φ q)
    | some (ms,u)=>X ((σ.set d ob).put d u,Qal φ q/\v.denil ms=u)
   | some _=>none
  | none=>none
  else none
 | none=>match o.op with
  | .store Tx x y=>match σ.opd x with
   | some p=>match σ.opd y with
    | some v=>Qrn T Tx σ φ p v
    | none=>none
   | none=>none
  | _=>none
def QsH (T:Uh)(n:Nat)(σ:St)(φ:Prop)(rs':L_ (L_ V))(m:Nat)(d Tx Ty:Nat):V->V->O_ (St×Prop)
 | .own b k,y=>match look σ.hp b with
  | some (.arr z rs)=>match look T.es Tx with
   | some (e,z',by_)=>match look T.zv e with
    | some zs=>bif (look T.es Ty).isSome&&Nat.ble (d+1) n&&!(Nat.ble 619 b)&&Nat.beq z z'&&Nat.beq zs.length z&&!(Nat.beq z 0)&&Nat.ble by_ 32768 then match y with
     | .sl h us=>bif Nat.beq z h then X (σ.app b z d m rs',φ/\(rs.length=k/\decide (k+us.length<=4294967296)=true/\rs++us=rs'/\k+us.length=m))else none
     | .own b' O=>match look σ.hp b' with
      | some (.arr h us)=>bif Nat.beq z h then X (σ.app b z d m rs',φ/\(rs.length=k/\decide (k+O<=4294967296)=true/\us.length=O/\rs++us=rs'/\k+O=m))else none
      | _=>none
     | .lit (.slice none 0 0)=>X (σ.app b z d k rs,φ/\(rs.length=k/\decide (k<=4294967296)=true))
     | _=>none
     else none
    | none=>none
   | none=>none
  | _=>none
 | _,_=>none
def Xy {α:Type}(l:L_ (Nat×α)):L_ Nat->O_ (L_ (Nat×α))
 | []=>X []
 | t::h=>match look l t with
  | some v=>match Xy l h with
   | some r=>X ((t,v)::r)
   | none=>none
  | none=>none
def V.frzC (b:Nat)(v s:V):V:=match v with
 | .own o k=>bif Nat.beq o b then s else .own o k
 | v=>v
def V.frz (b:Nat)(v s:V):V:=match v with
 | .agg h=>.agg (h.map λv=>v.frzC b s)
 | v=>v.frzC b s
def Qos (b:Nat)(rs us:L_ (L_ V)):V->Prop
 | .own o k=>bif Nat.beq o b then k<=rs.length/\rs.take k=us else True
 | _=>True
def Qd2 (b:Nat)(rs us:L_ (L_ V)):L_ V->Prop
 | []=>True
 | .own o k::r=>Qos b rs us (.own o k)/\Qd2 b rs us r
 | _::r=>Qd2 b rs us r
def QsI (b:Nat)(rs us:L_ (L_ V)):V->Prop
 | .agg h=>Qd2 b rs us h
 | v=>Qos b rs us v
def V.isOwn (b:Nat):V->Bool
 | .own o _=>Nat.beq o b
 | _=>false
def V.frzB (b:Nat):V->Bool
 | .agg h=>h.all λc=>c.freeC b||c.isOwn b
 | v=>v.freeC b||v.isOwn b
def Qie (b:Nat)(s:V)(rs us:L_ (L_ V))(σ0:St):L_ Nat->St->Prop->O_ (St×Prop)
 | [],σ,φ=>X (σ,φ)
 | t::h,σ,φ=>match look σ0.fr t with
  | some v=>bif v.frzB b then Qie b s rs us σ0 h (σ.put t (v.frz b s)) (φ/\QsI b rs us v)else none
  | none=>none
def Qot (b:Nat)(s:V)(rs us:L_ (L_ V))(σ0:St):L_ Nat->St->Prop->O_ (St×Prop)
 | [],σ,φ=>X (σ,φ)
 | p::O,σ,φ=>match look σ0.hp p with
  | some (.var h)=>bif !(Nat.beq p b)&&h.all (λc=>c.freeC b||c.isOwn b)&&(look σ.hp p).isSome then Qot b s rs us σ0 O (σ.set p (.var (h.map λv=>v.frzC b s))) (φ/\Qd2 b rs us h)else none
  | _=>none
def QsJ (P:Program)(C:Xr)(T:Uh)(n:Nat):CL->Pt->L_ Fr->St->Prop->O_ Cfg
 | .o h,.o ops (o::l),ks,σ,φ=>match Aa ops o (look σ.fr)with
  | some true=>match JE P C T n h none o σ φ with
   | some (σ',φ')=>X ⟨.o ops l,ks,σ',φ'⟩
   | none=>none
  | _=>none
 | .v h ms u,.o ops (o::l),ks,σ,φ=>match Aa ops o (look σ.fr)with
  | some true=>match JE P C T n h (X (ms,u)) o σ φ with
   | some (σ',φ')=>X ⟨.o ops l,ks,σ',φ'⟩
   | none=>none
  | _=>none
 | .st r rs,.o ops (o::l),ks,σ,φ=>match Aa ops o (look σ.fr)with
  | some true=>match o.dst with
   | none=>match o.op with
    | .store Tx x y=>match σ.opd x with
     | some p=>match σ.opd y with
      | some v=>match storeA T Tx σ φ r rs p v with
       | some (σ',φ')=>X ⟨.o ops l,ks,σ',φ'⟩
       | none=>none
      | none=>none
     | none=>none
    | _=>none
   | some _=>none
  | _=>none
 | .app rs m,.o ops (o::l),ks,σ,φ=>match Aa ops o (look σ.fr)with
  | some true=>match o.dst with
   | some d=>match o.op with
    | .call c=>match c.callee with
     | .builtin .append=>match c.args.toList with
      | [x,y]=>match c.argTypes.toList with
       | [Tx,Ty]=>match σ.opd x with
        | some p=>match σ.opd y with
         | some v=>match QsH T n σ φ rs m d Tx Ty p v with
          | some (σ',φ')=>X ⟨.o ops l,ks,σ',φ'⟩
          | none=>none
         | none=>none
        | none=>none
       | _=>none
      | _=>none
     | _=>none
    | _=>none
   | none=>none
  | _=>none
 | .x g,.o ops (o::l),ks,σ,φ=>match Aa ops o (look σ.fr)with
  | some true=>X ⟨.o ops l,ks,g σ,φ/\Qc P C o σ (g σ)⟩
  | _=>none
 | .cm en M N dead ms outs r,.o ops (o::l),ks,σ,φ=>match Aa ops o (look σ.fr)with
  | some true=>match o.dst with
   | some d=>bif Nat.ble (d+1) n then match o.op with
    | .call c=>match QsG P T σ φ c en with
     | some (f,vs,φ1)=>match cmV P σ φ1 d f vs M N dead ms outs r with
      | some (σ',φ')=>X ⟨.o ops l,ks,σ',φ'⟩
      | none=>none
     | none=>none
    | _=>none
    else none
   | none=>none
  | _=>none
 | .br b,.c (.cond c x y),ks,σ,φ=>match σ.opd c with
  | some (.b t)=>match b with
   | true=>X ⟨.c x,ks,σ,φ/\t=true⟩
   | false=>X ⟨.c y,ks,σ,φ/\t=false⟩
  | _=>none
 | .say t v,pt,ks,σ,φ=>match look σ.fr t with
  | some u=>X ⟨pt,ks,σ.put t v,φ/\u=v⟩
  | none=>none
 | .sayO b ob,pt,ks,σ,φ=>match look σ.hp b with
  | some u=>X ⟨pt,ks,σ.set b ob,φ/\u=ob⟩
  | none=>none
 | .adopt t b z,pt,ks,σ,φ=>match look σ.fr t with
  | some (.lit (.slice none 0 0))=>match look σ.hp b with
   | none=>bif Nat.ble 619 b then none else X ⟨pt,ks,(σ.set b (.arr z [])).put t (.own b 0),φ⟩
   | some _=>none
  | _=>none
 | .denil t ms,pt,ks,σ,φ=>match look σ.fr t with
  | some v=>X ⟨pt,ks,σ.put t (v.denil ms),φ⟩
  | none=>none
 | .denilO b ms,pt,ks,σ,φ=>match look σ.hp b with
  | some (.var O)=>X ⟨pt,ks,σ.set b (.var (Gs ms O)),φ⟩
  | _=>none
 | .ren o o',pt,ks,σ,φ=>bif !(Nat.ble 617 o)&&!(Nat.ble 617 o')&&(look σ.hp o').isNone then X ⟨pt,ks,σ.ren o o',φ⟩else none
 | .kill b,pt,ks,σ,φ=>X ⟨pt,ks,σ.kill b,φ⟩
 | .frz b us ts os,pt,ks,σ,φ=>match look σ.hp b with
  | some (.arr z rs)=>bif !(Nat.ble 617 b)then match Qie b (.sl z us) rs us σ ts (σ.kill b) True with
   | some (σ1,φ1)=>match Qot b (.sl z us) rs us σ os σ1 φ1 with
    | some (σ2,φ2)=>X ⟨pt,ks,σ2,φ/\φ2⟩
    | none=>none
   | none=>none
   else none
  | _=>none
 | .adoptO p i b z,pt,ks,σ,φ=>match look σ.hp p with
  | some (.var O)=>match O[i]? with
   | some (.lit (.slice none 0 0))=>match look σ.hp b with
    | none=>bif Nat.beq p b||Nat.ble 619 b then none else X ⟨pt,ks,(σ.set b (.arr z [])).set p (.var (O.set i (.own b 0))),φ⟩
    | some _=>none
   | _=>none
  | _=>none
 | .keep ts os,pt,ks,σ,φ=>match Xy σ.fr ts with
  | some fr=>match Xy σ.hp os with
   | some hp=>bif St.closed ⟨fr,hp⟩then X ⟨pt,ks,⟨fr,hp⟩,φ⟩else none
   | none=>none
  | none=>none
 | _,_,_,_,_=>none
def plain (P:Program)(C:Xr)(T:Uh)(n:Nat):Nat->Pt->L_ Fr->St->Prop->O_ Cfg
 | 0,pt,ks,σ,φ=>X ⟨pt,ks,σ,φ⟩
 | k+1,.o ops (o::l),ks,σ,φ=>match Aa ops o (look σ.fr)with
  | some true=>match JE P C T n .no none o σ φ with
   | some (σ',φ')=>plain P C T n k (.o ops l) ks σ' φ'
   | none=>none
  | some false=>match o.dst with
   | some d=>bif Nat.ble (d+1) n then plain P C T n k (.o ops l) ks (σ.put d (.lit undef)) φ else none
   | none=>plain P C T n k (.o ops l) ks σ φ
  | none=>none
 | k+1,pt,ks,σ,φ=>match ctl pt ks σ with
  | some (O,h)=>plain P C T n k O h σ φ
  | none=>none
def go (P:Program)(C:Xr)(T:Uh)(n:Nat):L_ CL->Pt->L_ Fr->St->Prop->O_ Cfg
 | [],pt,ks,σ,φ=>X ⟨pt,ks,σ,φ⟩
 | .n k::ds,pt,ks,σ,φ=>match plain P C T n k pt ks σ φ with
  | some ⟨O,h,σ',φ'⟩=>go P C T n ds O h σ' φ'
  | none=>none
 | d::ds,pt,ks,σ,φ=>match QsJ P C T n d pt ks σ φ with
  | some ⟨O,h,σ',φ'⟩=>go P C T n ds O h σ' φ'
  | none=>none
section
variable {P:Program}{C:Xr}{T:Uh}{Q:Exit->St->Prop}{n:Nat}{φ:Nat->O_ QY}{σ:St}{a:Act}{w:World}
def Qqi (P:Program)(C:Xr)(Q:Exit->St->Prop)(pt:Pt)(ks:L_ Fr)(σ:St)(φ:Prop)(c:Cfg):Prop:=c.φ->φ/\(AK P C Q c.pt c.ks c.σ->AK P C Q pt ks σ)
def Qam {φ:Prop}{q:O_ Prop}{v:V}{ob:O_ Ob}(h:Qal φ q):φ/\Rs.holds ⟨v,ob,q⟩:=by
 cases q with
 | none=>exact⟨h,trivial⟩
 | some p=>exact h
def Qro {pt pt':Pt}{ks O:L_ Fr}{σ:St}(h:ctl pt ks σ=X (pt',O))(k:AK P C Q pt' O σ):AK P C Q pt ks σ:=by
 unfold ctl at h;split at h
 ·cases h;exact AK.seq k
 ·cases h;exact AK.block k
 ·cases h;exact AK.region k
 ·cases h;exact AK.skip k
 ·cases h;exact AK.label k
 ·cases h;exact AK.exit k
 ·cases h;exact AK.ret k
 ·split at h
  ·rename_i hc;cases h;exact YE.cond_true hc k
  ·rename_i hc;cases h;exact YE.cond_false hc k
  cases h
 ·cases h;exact AK.nil k
 ·cases h;exact AK.popSeq k
 ·cases h;exact AK.popBlk k
 ·cases h;exact AK.exSeq k
 ·cases h;exact AK.exCut k
 ·rename_i _ i j ks;cases hb:Nat.beq i j with
  | true=>rw[hb]at h;cases h;exact AK.exBlk hb k
  | false=>rw[hb]at h;cases h;exact AK.exBlk' hb k
 ·cases h;exact AK.retPop k
 cases h
def Vg {ops:Array Oper}{o:Oper}{f:Nat->O_ V}{b:Bool}(h:Aa ops o f=X b):
  (o.guard=none/\b=true)\/∃j t d,o.guard=X (j,t)/\((ops[j]?).bind (·.dst))=X d/\((∃u,f d=X (.b u)/\b=(u==t))\/(f d=X (.lit undef)/\b=false)):=by
 unfold Aa at h;split at h
 ·rename_i hg;cases h;exact .inl ⟨hg,rfl⟩
 rename_i j t hg;split at h
 ·rename_i oj hj;split at h
  ·rename_i d hd;have hjd:((ops[j]?).bind (·.dst))=X d:=by rw[hj];exact hd
   refine .inr ⟨j,t,d,hg,hjd,?_⟩;split at h
   ·rename_i O;cases h;exact .inl ⟨true,O,by simp⟩
   ·rename_i O;cases h;exact .inl ⟨false,O,by simp⟩
   ·rename_i v _ _ O;obtain⟨h1,h⟩:=Ya h;cases h;exact .inr ⟨by rw[O,V.isUnd_eq h1],rfl⟩
   cases h
  cases h
 cases h
def AL.want {ops:Array Oper}{o:Oper}{l:L_ Oper}{σ σ':St}{Q:Exit->St->Prop}(h:Aa ops o (look σ.fr)=X true)(hs:Qc P C o σ σ')(k:AL P C ops l σ' Q):AL P C ops (o::l) σ Q:=by
 rcases Vg h with⟨hg,_⟩|⟨j,t,d,hg,hj,⟨u,hu,O⟩|⟨_,O⟩⟩
 ·exact AL.cons hg hs k
 ·have:u=t:=by simpa using O.symm
  exact AL.consGT hg hj hu this hs k
 cases O
def AL.pass {ops:Array Oper}{o:Oper}{l:L_ Oper}{σ:St}{Q:Exit->St->Prop}{d:Nat}(h:Aa ops o (look σ.fr)=X false)(hd:o.dst=X d)(hn:B_ d C)(k:AL P C ops l (σ.put d (.lit undef)) Q):AL P C ops (o::l) σ Q:=by
 rcases Vg h with⟨_,O⟩|⟨j,t,e,hg,hj,⟨u,hu,O⟩|⟨hu,_⟩⟩
 ·cases O
 ·have:u=!t:=by cases u<;>cases t<;>first | rfl | cases O
  exact AL.consNT hg hj hu this hd hn k
 exact AL.consU hg hj hu hd hn k
def AL.pass0 {ops:Array Oper}{o:Oper}{l:L_ Oper}{σ:St}{Q:Exit->St->Prop}(h:Aa ops o (look σ.fr)=X false)(hd:o.dst=none)(k:AL P C ops l σ Q):AL P C ops (o::l) σ Q:=by
 rcases Vg h with⟨_,O⟩|⟨j,t,e,hg,hj,⟨u,hu,O⟩|⟨hu,_⟩⟩
 ·cases O
 ·have:u=!t:=by cases u<;>cases t<;>first | rfl | cases O
  exact AL.consNT0 hg hj hu this hd k
 exact AL.consU0 hg hj hu hd k
def RR.putDenil {d:Nat}{v:V}{ms:L_ (O_ Nat)}(h:RR C φ (σ.put d v) a w):RR C φ (σ.put d (v.denil ms)) a w:=by
 obtain⟨x,hx,hrep⟩:=h.frame d v (QB _ _ _);refine(h.say hx (hrep.denil (ms:=ms))).le λt u O=>?_;by_cases e:d=t
 ·subst e;have O:look ((d,v.denil ms)::σ.fr) d=X u:=O;rw[QB]at O;show look ((d,v.denil ms)::_) d=X u;rw[QB];exact O
 have O:look ((d,v.denil ms)::σ.fr) t=X u:=O;rw[Qx _ _ e]at O;show look ((d,v.denil ms)::(d,v)::σ.fr) t=X u;rw[Qx _ _ e,Qx _ _ e];exact O
def Qc.denil {o:Oper}{σ σ':St}{d:Nat}{v:V}{ms:L_ (O_ Nat)}(h:Qc P C o σ (σ'.put d v)):Qc P C o σ (σ'.put d (v.denil ms)):=
 λa w hR next Q hn=>h a w hR next Q λO w' ⟨φ,hr⟩=>hn O w' ⟨φ,hr.putDenil⟩
def QfH {h:WK}{sv:O_ (L_ (O_ Nat)×V)}{o:Oper}{σ σ':St}{φ φ':Prop}(ok:Gc P T)(hN:JK P C n)(e:JE P C T n h sv o σ φ=X (σ',φ'))(hφ:φ'):φ/\Qc P C o σ σ':=by
 have hn:=hN.n;unfold JE at e;split at e
 ·rename_i d hd;replace e:=Ya e;obtain⟨e1,e⟩:=e;rw[<-hn]at e1;split at e
  ·rename_i v q O;have key:∀q':Prop,Qal φ q/\q'->φ/\Qc P C o σ (σ.put d v):=λq' h=>by
    obtain⟨a,b⟩:=Qam h.1;exact⟨a,QfG ok hd e1 hN.g (λ_ _ h=>h) (λ_ _ h=>h) O b (λh=>by cases h)⟩
   split at e
   ·cases e;exact key True ⟨hφ,trivial⟩
   cases e;obtain⟨a,b⟩:=hφ;subst b;obtain⟨a1,a2⟩:=key True ⟨a,trivial⟩;exact⟨a1,a2.denil⟩
  ·rename_i v ob q O;split at e
   ·rename_i hl;have key:∀q':Prop,Qal φ q/\q'->φ/\Qc P C o σ ((σ.set d ob).put d v):=λq' h=>by
     obtain⟨a,b⟩:=Qam h.1;exact⟨a,QfG ok hd e1 hN.g (λ_ _ h=>h) (λ_ _ h=>h) O b (λ_=>hl)⟩
    split at e
    ·cases e;exact key True ⟨hφ,trivial⟩
    cases e;obtain⟨a,b⟩:=hφ;subst b;obtain⟨a1,a2⟩:=key True ⟨a,trivial⟩;exact⟨a1,a2.denil⟩
   cases e
  cases e
 rename_i hd;split at e
 ·rename_i Tx x y ho;split at e
  ·rename_i p hp;split at e
   ·rename_i v hv;unfold Qrn at e;split at e
    ·rename_i b i off v;split at e
     ·rename_i cs hb;split at e
      ·split at e
       ·rename_i k hk;replace e:=Ya e;obtain⟨e2,e⟩:=e;cases e;simp only[QH]at e2;obtain⟨⟨⟨a1,a2⟩,a3⟩,a4⟩:=e2;exact⟨hφ,Qc.storeL ho hd hp hb hv (V.isV_or a1) (ok.sz hk) (Ye a2) a3 a4 rfl⟩
       cases e
      cases e
     cases e
    cases e
   cases e
  cases e
 cases e
def Qqj {o:Oper}{σ σ':St}{φ φ':Prop}{rs':L_ (L_ V)}{m d Tx Ty:Nat}{x y:Operand}{p v:V}(ok:Gc P T)(hN:JK P C n)(ho:o.op=.call { callee:=.builtin .append,args:=#[x,y],argTypes:=#[Tx,Ty] })(hd:o.dst=X d)
  (hx:σ.opd x=X p) (hy:σ.opd y=X v) (e:QsH T n σ φ rs' m d Tx Ty p v=X (σ',φ')) (hφ:φ'):φ/\Qc P C o σ σ':=by
 have hn:=hN.n;unfold QsH at e;split at e
 ·rename_i b k y';split at e
  ·rename_i z rs hb;split at e
   ·rename_i et z' by_ O;split at e
    ·rename_i zs hz;replace e:=Ya e;obtain⟨e1,e⟩:=e;simp only[QH,Di]at e1;obtain⟨⟨⟨⟨⟨⟨a1,a2⟩,a3⟩,a4⟩,a5⟩,a6⟩,a7⟩:=e1;have a4:=Ye a4;subst a4;have a5:=Ye a5;have a6:z≠0:=λh=>by rw[h]at a6;cases a6
     rw[<-hn]at a2;obtain⟨⟨e2,z2,by2⟩,hU⟩:∃q,Yp P Ty=X q:=by
      cases hl:look T.es Ty with
      | none=>rw[hl]at a1;cases a1
      | some q=>exact⟨q,ok.es hl⟩
     split at e
     ·rename_i z'' us;replace e:=Ya e;obtain⟨e3,e⟩:=e;have:=Ye e3;subst this;cases e;obtain⟨h,h1,h2,h3,h4⟩:=hφ;exact⟨h,Qc.appS ho hd a2 hx hb a3 h1 (ok.es O) hU (ok.zv hz) a5 a6 a7 h2 hy h3 h4⟩
     ·rename_i b' k';split at e
      ·rename_i z'' us hb';replace e:=Ya e;obtain⟨e3,e⟩:=e;have:=Ye e3;subst this;cases e;obtain⟨h,h1,h2,h3,h4,h5⟩:=hφ;exact⟨h,Qc.appO ho hd a2 hx hb a3 h1 (ok.es O) hU (ok.zv hz) a5 a6 a7 h2 hy hb' h3 h4 h5⟩
      cases e
     ·cases e;obtain⟨h,h1,h2⟩:=hφ;exact⟨h,Qc.appN ho hd a2 hx hb a3 h1 (ok.es O) hU (ok.zv hz) a5 a6 a7 h2 hy⟩
     cases e
    cases e
   cases e
  cases e
 cases e
def Qou {o:Oper}{σ σ':St}{φ φ':Prop}{O:TypeId}{x y:Operand}{p v:V}{r:L_ V}{rs':L_ (L_ V)}(ok:Gc P T)(ho:o.op=.store O x y)(hd:o.dst=none)(hx:σ.opd x=X p)(hy:σ.opd y=X v)
  (e:storeA T O σ φ r rs' p v=X (σ',φ')) (h:φ'):φ/\Qc P C o σ σ':=by
 unfold storeA at e;split at e
 ·rename_i b i off v;split at e
  ·rename_i z rs hb;split at e
   ·rename_i k hk;replace e:=Ya e;obtain⟨e2,e⟩:=e;cases e;simp only[QH]at e2;obtain⟨⟨⟨⟨a1,a2⟩,a3⟩,a4⟩,a5⟩:=e2;exact⟨h.1,Qc.storeA ho hd hx hb h.2.1 hy (V.isV_or a1) (ok.sz hk) (Ye a2) a3 a4 a5 h.2.2⟩
   cases e
  cases e
 cases e
def R.say {σ:St}{t:Nat}{v:V}(h:∃u,look σ.fr t=X u/\u=v){a:Act}{w:World}(hR:R C σ a w):R C (σ.put t v) a w:=by
 obtain⟨u,hu,rfl⟩:=h;obtain⟨φ,hr⟩:=hR;obtain⟨x,hx,O⟩:=hr.frame t _ hu;exact⟨φ,hr.say hx O⟩
def RR.sayOb (h:RR C φ σ a w){b:Nat}{ob ob':Ob}(hb:look σ.hp b=X ob)(hs:∀B,φ b=X B->Ko φ (Xg C φ w) w B ob->Ko φ (Xg C φ w) w B ob')(he:ob=ob'\/¬ob.Nil):RR C φ (σ.set b ob') a w:=by
 rcases he with rfl | hne
 ·refine⟨h.os,h.tape,h.output,h.size,h.kept,h.inj,λo B hB=>?_,h.lt,h.new,h.stay.set hb,h.tmps,h.defers,h.frame,λo ob'' O=>?_⟩
  ·by_cases e:o=b
   ·subst e;exact⟨_,σ.look_set_same _ _⟩
   rw[σ.look_set_other _ (Ne.symm e)];exact h.dom o B hB
  by_cases e:o=b
  ·subst e;rw[σ.look_set_same]at O;cases O;exact h.heap _ _ hb
  rw[σ.look_set_other _ (Ne.symm e)]at O;exact h.heap _ _ O
 exact h.say' hb hs hne
def R.sayO {σ:St}{b:Nat}{ob:Ob}(h:∃u,look σ.hp b=X u/\u=ob){a:Act}{w:World}(O:R C σ a w):R C (σ.set b ob) a w:=by
 obtain⟨u,hu,rfl⟩:=h;obtain⟨φ,hr⟩:=O;exact⟨φ,hr.sayOb hu (λ_ _ h=>h) (.inl rfl)⟩
def R.denil {σ:St}{t:Nat}{v:V}{ms:L_ (O_ Nat)}(h:look σ.fr t=X v){a:Act}{w:World}(hR:R C σ a w):R C (σ.put t (v.denil ms)) a w:=by
 obtain⟨φ,hr⟩:=hR;obtain⟨x,hx,O⟩:=hr.frame t _ h;exact⟨φ,hr.say hx O.denil⟩
def R.denilO {σ:St}{b:Nat}{cs:L_ V}{ms:L_ (O_ Nat)}(h:look σ.hp b=X (.var cs)){a:Act}{w:World}(hR:R C σ a w):R C (σ.set b (.var (Gs ms cs))) a w:=by
 obtain⟨φ,hr⟩:=hR;refine⟨φ,hr.sayOb h (λB hB O=>?_) (.inr λe=>e.elim)⟩;obtain⟨xs,E,h1,h2,h0,h3⟩:=O;refine⟨xs,E,h1,by rw[QdT];exact h2,h0,λj x v hx hv=>?_⟩;obtain⟨m,v',hv',rfl⟩:=Qah _ _ j v hv;exact(h3 j x v' hx hv').den1
section
variable {hp:H_}{g:Bool}{bad:L_ Nat}{m:Nat->Nat->Prop}{bk:Nat->O_ Nat}
def QfI (hm:∀a b,bk a=X b->m a b):∀(v:V) {u:V},trC bk v=X u->Vw hp g false bad m v u
 | .own a n,u,h=>by rw[trC]at h;split at h<;>first | (rename_i b O;cases h;exact .own _ _ _ (hm _ _ O)) | cases h
 | .loc a i d,u,h=>by rw[trC]at h;split at h<;>first | (rename_i b O;cases h;exact .loc _ _ _ _ (hm _ _ O)) | cases h
 | .map a,u,h=>by rw[trC]at h;split at h<;>first | (rename_i b O;cases h;exact .map _ _ (hm _ _ O)) | cases h
 | .ifc t x,u,h=>by
  rw[trC]at h;split at h
  ·rename_i y hy;cases h;exact .ifc _ _ _ (QfI hm x hy)
  cases h
 | .b _,u,h | .i _ _,u,h | .s _,u,h | .sl _ _,u,h | .sln _ _ _,u,h | .e0,u,h | .ro _,u,h | .agg _,u,h | .tup _,u,h | .clo _ _ _,u,h | .lit _,u,h | .J,u,h=>by
  have h:=Ya (show(bif V.datA _ then X _ else none)=X u from h);obtain⟨h1,h2⟩:=h;cases h2;exact .dat _ h1 (λe=>by cases e)
def Vh (hm:∀a b,bk a=X b->m a b):∀{vs us:L_ V},trL bk vs=X us->vs.length=us.length/\∀(j:Nat) c u,vs[j]? = X c->us[j]? = X u->Vw hp g false bad m c u:=by
 intro vs
 induction vs with
 | nil=>intro us h;cases h;simp
 | cons v vs ih=>
  intro us h;rw[trL]at h;split at h
  ·rename_i u hu;split at h
   ·rename_i us' hus;cases h;obtain⟨a,b⟩:=ih hus;refine⟨by simp[a],λj c w O hw=>?_⟩;cases j with
    | zero=>simp at O hw;subst O;subst hw;exact QfI hm _ hu
    | succ j=>simp at O hw;exact b j c w O hw
   cases h
  cases h
def PB (hm:∀a b,bk a=X b->m a b){v u:V}(h:trV bk v=X u):Vw hp g false bad m v u:=by
 unfold trV at h;split at h
 ·rename_i cs;cases hd:(V.agg cs).datA with
  | true=>rw[hd]at h;cases h;exact .dat _ hd (λe=>by cases e)
  | false=>
   rw[hd]at h;dsimp only[cond_false]at h;split at h
   ·rename_i us O;cases h;obtain⟨a,b⟩:=Vh hm O;exact .agg _ _ a b
   cases h
 ·rename_i cs;cases hd:(V.tup cs).datA with
  | true=>rw[hd]at h;cases h;exact .dat _ hd (λe=>by cases e)
  | false=>
   rw[hd]at h;dsimp only[cond_false]at h;split at h
   ·rename_i us O;cases h;obtain⟨a,b⟩:=Vh hm O;exact .tup _ _ a b
   cases h
 ·split at h
  ·rename_i us O;split at h
   ·rename_i ds hds;cases h;obtain⟨a,b⟩:=Vh hm O;obtain⟨a',b'⟩:=Vh hm hds;exact .clo _ _ _ _ _ a a' b b'
   cases h
  cases h
 exact QfI hm _ h
def QjX (hm:∀a b,bk a=X b->m a b):∀{vs us:L_ V},Qor bk vs=X us->vs.length=us.length/\∀(j:Nat) c u,vs[j]? = X c->us[j]? = X u->Vw hp g false bad m c u:=by
 intro vs
 induction vs with
 | nil=>intro us h;cases h;simp
 | cons v vs ih=>
  intro us h;rw[Qor]at h;split at h
  ·rename_i u hu;split at h
   ·rename_i us' hus;cases h;obtain⟨a,b⟩:=ih hus;refine⟨by simp[a],λj c w O hw=>?_⟩;cases j with
    | zero=>simp at O hw;subst O;subst hw;exact PB hm hu
    | succ j=>simp at O hw;exact b j c w O hw
   cases h
  cases h
def Qrp (hm:∀a b,bk a=X b->m a b){ob ob':Ob}(h:trO bk ob=X ob'):ObW hp g false bad m ob ob':=by
 unfold trO at h;split at h
 ·split at h
  ·rename_i us O;cases h;obtain⟨a,b⟩:=QjX hm O;exact .var _ _ a b
  cases h
 ·split at h
  ·rename_i us O;cases h;obtain⟨a,b⟩:=QjX hm O;exact .lp _ _ _ _ _ a b
  cases h
 ·cases h;exact .arr _ _ (λe=>by cases e)
 ·cases h;exact .map _ (λe=>by cases e)
 ·cases h;exact .grp _ _ _ rfl
 ·cases h;exact .tbl _ _ _ rfl
 cases h
def NP (hm:∀a b,bk a=X b->m a b):∀{ms:L_ Mode} {vs us:L_ V},PU bk ms vs=X us->Vws hp g false bad m vs us:=by
 intro ms
 induction ms with
 | nil=>intro vs us h;cases vs with
  | nil=>cases h;exact .nil
  | cons=>cases h
 | cons md ms ih=>
  intro vs us h;cases vs with
  | nil=>cases h
  | cons v vs=>
   rw[PU]at h;split at h
   ·rename_i u O;split at h
    ·rename_i us' hus;cases h;refine .cons ?_ (ih hus);unfold QuI at O;split at O
     ·cases O;exact .nil _
     ·exact PB hm O
     ·rename_i n cs;split at O
      ·rename_i us2 hus2;split at O
       ·rename_i hj;cases O;obtain⟨a,b⟩:=Vh hm hus2;refine .agg _ _ (by rw[<-a];simp) λj c w hc hw=>?_;by_cases e:j=n
        ·subst e;rw[hj]at hw;cases hw;exact .forget _
        exact b j c w (by rw[List.getElem?_set,if_neg (Ne.symm e)];exact hc) hw
       cases O
      cases O
     cases O
    cases h
   cases h
def EB (hm:∀a b,bk a=X b->m a b){src:H_}:∀{M:L_ (Nat×Nat)} {l:H_},IJ bk (look src) M=X l->Nx hp g false bad m src M l:=by
 intro M
 induction M with
 | nil=>intro l h;cases h;exact .nil
 | cons p M ih=>
  intro l h;obtain⟨d,s⟩:=p;rw[IJ]at h;split at h
  ·rename_i ob hob;split at h
   ·rename_i ob' O;split at h
    ·rename_i l' hl;cases h;exact .cons hob (Qrp hm O) (ih hl)
    cases h
   cases h
  cases h
def Iw : ∀{M:L_ (Nat×Nat)} {a b:Nat},Ex M a=X b->(b,a)∈M:=by
 intro M
 induction M with
 | nil=>intro a b h;cases h
 | cons p M ih=>
  intro a b h;obtain⟨b',a'⟩:=p;rw[Ex]at h;cases O:Nat.beq a' a with
  | true=>rw[O]at h;cases h;rw[Ye O];exact YY
  | false=>rw[O]at h;exact Kb _ (ih h)
end
def Qqk {o:Oper}{σ:St}{φ φ':Prop}{c:Call}{en:Ent}{f:Nat}{vs:L_ V}(ok:Gc P T)(ho:o.op=.call c)(e:QsG P T σ φ c en=X (f,vs,φ'))(hφ:φ'):φ/\Ju P C o σ f vs:=by
 obtain⟨ce,ags,ts⟩:=c;unfold QsG at e;split at e
 ·split at e
  ·rename_i f' O;dsimp only at O;subst O;replace e:=Ya e;obtain⟨e1,e⟩:=e;split at e
   ·rename_i vs' hv;cases e;exact⟨hφ,Ju.fn ho (ok.en e1) (AM (λ_ _ h=>h) hv)⟩
   cases e
  cases e
 ·split at e
  ·rename_i x O;dsimp only at O;subst O;split at e
   ·rename_i f' fs cs hx;replace e:=Ya e;obtain⟨e1,e⟩:=e;split at e
    ·rename_i vs' hv;cases e;exact⟨hφ,Ju.clo ho hx (ok.en e1) (AM (λ_ _ h=>h) hv)⟩
    cases e
   cases e
  cases e
 ·split at e
  ·rename_i x name O;dsimp only at O;subst O;split at e
   ·rename_i t u hx;replace e:=Ya e;obtain⟨e1,e⟩:=e;split at e
    ·rename_i vs' hv;cases e;exact⟨hφ.1,Ju.meth (r:=u) ho hx hφ.2 (ok.en e1) (AM (λ_ _ h=>h) hv)⟩
    cases e
   cases e
  cases e
 split at e
 ·rename_i x name O;dsimp only at O;subst O;split at e
  ·rename_i t b off hx;split at e
   ·rename_i cs hb;split at e
    ·rename_i r hr0;replace e:=Ya e;obtain⟨e1,e⟩:=e;split at e
     ·rename_i vs' hv;cases e;exact⟨hφ.1,Ju.methV ho hx hφ.2.1 hφ.2.2.1 hφ.2.2.2 hb hr0 (ok.en e1) (AM (λ_ _ h=>h) hv)⟩
     cases e
    cases e
   cases e
  cases e
 cases e
def Qrq {o:Oper}{σ σ':St}{φ φ':Prop}{d f:Nat}{vs:L_ V}{M N:L_ (Nat×Nat)}{dead:L_ Nat}{ms:L_ Mode}{outs:H_}{r:V}(hE:Ju P C o σ f vs)(hd:o.dst=X d)(hn:B_ d C)(hpg:C.pg P)
  (e:cmV P σ φ d f vs M N dead ms outs r=X (σ',φ')) (hφ:φ'):φ/\Qc P C o σ σ':=by
 unfold cmV at e;replace e:=Ya e;obtain⟨e1,e⟩:=e;simp only[QH]at e1;obtain⟨⟨h1,h2⟩,h3⟩:=e1;have h2:=Gt.1 h2;have h3:=Gt.1 h3;have O:LU M=true/\LU N=true:=by
  simp only[GS,QH]at h1;exact⟨h1.1.1.1,h1.1.1.2⟩
 have mM:∀a b,Ex M a=X b->look M b=X a:=λa b h=>Wt O.1 (Iw h) h2;have mN:∀a b,Ex N a=X b->look N b=X a:=λa b h=>Wt O.2 (Iw h) h3;split at e
 ·rename_i us hus;split at e
  ·rename_i hsC hC;split at e
   ·rename_i hsN hN;split at e
    ·rename_i r' hr;cases e;exact⟨hφ.1,Qc.callM (g:=false) hE hd hn hpg h1 h2 (NP mM hus) (EB mM hC) hφ.2 (EB mN hN) (PB mN hr)⟩
    cases e
   cases e
  cases e
 cases e
def QsK {l:S_}:∀{O:L_ Nat} {r:S_},Xy l O=X r->Mz l r:=by
 intro O
 induction O with
 | nil=>intro r h;cases h;trivial
 | cons t O ih=>
  intro r h;rw[Xy]at h;split at h
  ·rename_i v hv;split at h
   ·rename_i r' hr;cases h;exact⟨hv,ih hr⟩
   cases h
  cases h
def QsL {l:H_}:∀{O:L_ Nat} {r:H_},Xy l O=X r->Hl l r:=by
 intro O
 induction O with
 | nil=>intro r h;cases h;trivial
 | cons t O ih=>
  intro r h;rw[Xy]at h;split at h
  ·rename_i v hv;split at h
   ·rename_i r' hr;cases h;exact⟨hv,ih hr⟩
   cases h
  cases h
def RR.thawN {β:Nat}(hβ:β<=C.w0.heap.size)(hr:RR C φ σ a w){b n z:Nat}{rs us:L_ (L_ V)}(hp:Nat.ble 617 b=false)(hb:look σ.hp b=X (.arr z rs)){x:Value}(hrep:QO φ (Xg C φ w) w x (.own b n))(hle:n<=rs.length)(hu:rs.take n=us):
  Xu (Xg C (An φ b) w) w x (.sln β z us):=by
 subst hu;rcases hrep.own_inv with⟨rfl,rfl⟩|⟨B,hB,O,rfl⟩
 ·simp only[List.take_zero];exact .sln0 _ _ _ _
 obtain⟨rfl,hrl,hok,cs,E,h1,h2,h3⟩:=hr.block hB hb;have hnew:C.w0.heap.size<=B.b:=by
  have hb':b<617:=by
   rcases WY b 617 with h | h
   ·exact h
   rw[PR h]at hp;cases hp
  exact hr.new b B _ hB B.self hb'
 have hIb:Xg C (An φ b) w B.b:=by
  refine⟨(hr.lt b B _ hB B.self).1,λhlt=>by omega,λo B' hB' e=>?_⟩;obtain⟨h4,h5⟩:=Wa hB';exact h4 (hr.inj o b B' B _ h5 hB e B.self)
 have hle2:n*B.z<=B.cap*B.z:=Jb _ O;refine .sln β B.b B.off n B.cap B.z _ cs E (YC hβ hnew) hIb (by simp;omega) O (λr hr'=>hok r (Ld hr')) h1 (by omega) (λi r hi j v hj=>?_);have hi':rs[i]? = X r:=by
  rw[Ka]at hi;by_cases hin:i<n
  ·rwa[if_pos hin]at hi
  rw[if_neg hin]at hi;simp at hi
 obtain⟨y,hy,hd⟩:=h3 i r hi' j v hj;have:cs.getD (B.off+(i*B.z+j)) undef=y:=by simp[Qcx,hy]
 rw[this];exact hd.mono λk hk=>⟨hk.of_del,rfl⟩
def RR.thaw (hr:RR C φ σ a w){b n z:Nat}{rs us:L_ (L_ V)}(hp:Nat.ble 617 b=false)(hb:look σ.hp b=X (.arr z rs)){x:Value}(h:QO φ (Xg C φ w) w x (.own b n))(O:n<=rs.length)(hu:rs.take n=us):
  QO (An φ b) (Xg C (An φ b) w) w x (.sl z us):=.dat (hr.thawN (LQ _) hp hb h O hu).lo1
def Frz (C:Xr)(s:V)(z:Nat)(us:L_ (L_ V)):Prop:=s=.sl z us\/∃β,s=.sln β z us/\β<=C.w0.heap.size
def RR.thawU {s:V}{z:Nat}{us:L_ (L_ V)}(hs:Frz C s z us)(hr:RR C φ σ a w){b n:Nat}{rs:L_ (L_ V)}(hp:Nat.ble 617 b=false)(hb:look σ.hp b=X (.arr z rs)){x:Value}(h:QO φ (Xg C φ w) w x (.own b n))(O:n<=rs.length)(hu:rs.take n=us):
  QO (An φ b) (Xg C (An φ b) w) w x s:=by
 rcases hs with rfl | ⟨β,rfl,hβ⟩
 ·exact hr.thaw hp hb h O hu
 exact .dat (hr.thawN hβ hp hb h O hu)
section
variable {b z:Nat}{rs us:L_ (L_ V)}{σ0:St}{s:V}
def RR.frzC (hs:Frz C s z us)(hr:RR C φ σ a w)(hp:Nat.ble 617 b=false)(hb:look σ.hp b=X (.arr z rs)){x:Value}{v:V}(h:QO φ (Xg C φ w) w x v)(hq:Qos b rs us v)(O:v.freeC b=true\/∃k,v=.own b k):
  QO (An φ b) (Xg C (An φ b) w) w x (v.frzC b s):=by
 rcases O with O | ⟨k,rfl⟩
 ·have:v.frzC b s=v:=by
   unfold V.frzC;split
   ·rename_i o k;have:Nat.beq o b=false:=by simpa[V.freeC,V.freeN] using O
    rw[this];rfl
   rfl
  rw[this];exact QO.freeC (λo B ho hB=>by rw[GI ho];exact hB) (λk hk=>⟨hk.of_del,rfl⟩) h O
 have e:Nat.beq b b=true:=Nat.beq_refl b;simp only[Qos,e,Qq]at hq;simp only[V.frzC,e,Qq];exact RR.thawU hs hr hp hb h hq.1 hq.2
def QmZ {O:L_ V}(h:Qd2 b rs us O):∀(j:Nat) v,O[j]? = X v->Qos b rs us v:=by
 induction O with
 | nil=>intro j v hj;simp at hj
 | cons c O ih=>
  intro j v hj;have h2:Qd2 b rs us O:=by
   unfold Qd2 at h;split at h
   ·rename_i e;cases e
   ·rename_i e;cases e;exact h.2
   rename_i e;cases e;exact h
  cases j with
  | zero=>
   simp at hj;subst hj;cases c with
   | own o k=>exact h.1
   | _=>trivial
  | succ j=>exact ih h2 j v (by simpa using hj)
end
section
variable {b z:Nat}{rs us:L_ (L_ V)}{σ0:St}{s:V}
def Qov {v:V}(h:(v.freeC b||v.isOwn b)=true):v.freeC b=true\/∃k,v=.own b k:=by
 rw[KT]at h;rcases h with h | h
 ·exact .inl h
 unfold V.isOwn at h;split at h
 ·rename_i o k;rw[Ye h];exact .inr ⟨k,rfl⟩
 cases h
def RR.frzV (hz:Frz C s z us)(hr:RR C φ σ0 a w)(hp:Nat.ble 617 b=false)(hb:look σ0.hp b=X (.arr z rs)){x:Value}{v:V}(h:QO φ (Xg C φ w) w x v)(hq:QsI b rs us v)(hf:v.frzB b=true):
  QO (An φ b) (Xg C (An φ b) w) w x (v.frz b s):=by
 unfold V.frz;unfold QsI at hq;unfold V.frzB at hf;split at hq
 ·rename_i cs;obtain⟨xs,rfl,hs,hc⟩:=h.agg_inv;refine .agg xs _ (by simpa using hs) λj y u hy hu=>?_;rw[Yh]at hu;obtain⟨c,O,rfl⟩:=Yc.1 hu;dsimp only at hf;rw[XG]at hf;exact RR.frzC hz hr hp hb (hc j y c hy O) (QmZ hq j c O) (Qov (hf c (Xx O)))
 rename_i hne;have hf':(v.freeC b||v.isOwn b)=true:=by
  split at hf
  ·exact absurd rfl (hne _)
  exact hf
 exact RR.frzC hz hr hp hb h hq (Qov hf')
def Qql (hs:Frz C s z us)(hr:RR C φ σ0 a w)(hp:Nat.ble 617 b=false)(hb:look σ0.hp b=X (.arr z rs)):∀{ts:L_ Nat} {σ σ':St} {ψ ψ':Prop},Qie b s rs us σ0 ts σ ψ=X (σ',ψ')->ψ'->ψ/\(RR C (An φ b) σ a w->RR C (An φ b) σ' a w):=by
 intro ts
 induction ts with
 | nil=>intro σ σ' ψ ψ' h h';cases h;exact⟨h',id⟩
 | cons t ts ih=>
  intro σ σ' ψ ψ' h h';rw[Qie]at h;split at h
  ·rename_i v hv;replace h:=Ya h;obtain⟨h0,h⟩:=h;obtain⟨⟨h1,h2⟩,h3⟩:=ih h h';refine⟨h1,λk=>h3 ?_⟩;obtain⟨x,hx,O⟩:=hr.frame t v hv;exact k.say hx (RR.frzV hs hr hp hb O h2 h0)
  cases h
def Qqm (hs:Frz C s z us)(hr:RR C φ σ0 a w)(hp:Nat.ble 617 b=false)(hb:look σ0.hp b=X (.arr z rs)):∀{os:L_ Nat} {σ σ':St} {ψ ψ':Prop},Qot b s rs us σ0 os σ ψ=X (σ',ψ')->ψ'->ψ/\(RR C (An φ b) σ a w->(∀p cs ob,look σ0.hp p=X (.var cs)->look σ.hp p=X ob->¬ob.Nil)->RR C (An φ b) σ' a w):=by
 intro os
 induction os with
 | nil=>intro σ σ' ψ ψ' h h';cases h;exact⟨h',λk _=>k⟩
 | cons p ps ih=>
  intro σ σ' ψ ψ' h h';rw[Qot]at h;split at h
  ·rename_i cs hcs;replace h:=Ya h;obtain⟨h0,h⟩:=h;simp only[QH,Di]at h0;obtain⟨⟨g1,g2⟩,g3⟩:=h0;obtain⟨⟨h1,h2⟩,h3⟩:=ih h h';refine⟨h1,λk hv=>h3 ?_ ?_⟩
   ·have hne:p≠b:=λe=>by subst e;rw[Nat.beq_refl]at g1;cases g1
    obtain⟨ob,hob⟩:=Option.isSome_iff_exists.1 g3;refine k.sayOb hob (λB hB _=>?_) (.inr (hv p cs ob hcs hob));obtain⟨_,hB'⟩:=Wa hB;rcases hr.heap p _ hcs with⟨B',O,hrep⟩|⟨hn,_⟩
    ·rw[hB']at O;cases O;obtain⟨xs,E,e1,e2,e0,e3⟩:=hrep;refine⟨xs,E,e1,by simpa using e2,e0,λj x v hx hv'=>?_⟩;rw[Yh]at hv';obtain⟨c,hcj,rfl⟩:=Yc.1 hv';rw[XG]at g2;exact RR.frzC hs hr hp hb (e3 j x c hx hcj) (QmZ h2 j c hcj) (Qov (g2 c (Xx hcj)))
    rw[hn]at hB';cases hB'
   intro p' cs' ob' e1 e2 e3;by_cases e:p=p'
   ·subst e;rw[St.look_set_same]at e2;cases e2;exact e3.elim
   rw[St.look_set_other _ _ e]at e2;exact hv p' cs' ob' e1 e2 e3
  cases h
end
def R.frz {b z:Nat}{rs us:L_ (L_ V)}{s:V}(hs:Frz C s z us){σ σ1 σ2:St}{O os:L_ Nat}{φ1 φ2:Prop}(hp:Nat.ble 617 b=false)(hb:look σ.hp b=X (.arr z rs))(h1:Qie b s rs us σ O (σ.kill b) True=X (σ1,φ1))(h2:Qot b s rs us σ os σ1 φ1=X (σ2,φ2))(hφ:φ2)
  {a:Act} {w:World} (hR:R C σ a w):R C σ2 a w:=by
 obtain⟨φ,hr⟩:=hR;obtain⟨e1,e2⟩:=Qqm hs hr hp hb h2 hφ;obtain⟨_,e3⟩:=Qql hs hr hp hb h1 e1;refine⟨_,e2 (e3 (hr.kill b)) λp cs ob g1 g2 g3=>?_⟩;have key:∀{O:L_ Nat} {σ' σ'':St} {ψ ψ':Prop},Qie b s rs us σ O σ' ψ=X (σ'',ψ')->σ''.hp=σ'.hp:=by
  intro O
  induction O with
  | nil=>intro σ' σ'' ψ ψ' h;cases h;rfl
  | cons t O ih=>
   intro σ' σ'' ψ ψ' h;rw[Qie]at h;split at h
   ·replace h:=Ya h;obtain⟨_,h⟩:=h;rw[ih h];rfl
   cases h
 rw[key h1]at g2;obtain⟨_,ob',h5,h6⟩:=WF _ _ _ g2;rw[g1]at h5;cases h5;subst h6;exact g3.elim
def R.adoptO {σ:St}{p i b z:Nat}{cs:L_ V}(O:Nat.beq p b=false)(hp:look σ.hp p=X (.var cs))(hi:cs[i]? = X (.lit (.slice none 0 0)))(hlt:b<619)(hb:look σ.hp b=none){a:Act}{w:World}(hR:R C σ a w):
  R C ((σ.set b (.arr z [])).set p (.var (cs.set i (.own b 0)))) a w:=by
 obtain⟨φ,hr⟩:=hR;have hne:b≠p:=λe=>by subst e;rw[Nat.beq_refl]at O;cases O
 have h1:=hr.setNil (z:=z) hlt hb;have hp':look (σ.set b (.arr z [])).hp p=X (.var cs):=by rw[St.look_set_other _ _ hne];exact hp
 refine⟨φ,h1.sayOb hp' (λB hB hrep=>?_) (.inr λe=>e.elim)⟩;obtain⟨xs,E,e1,e2,e0,e3⟩:=hrep;refine⟨xs,E,e1,by simpa using e2,e0,λj x v hx h=>?_⟩;rw[List.getElem?_set]at h;split at h
 ·rename_i hij;subst hij;split at h
  ·cases h;have:=e3 i x _ hx hi;rw[this.lit_inv];exact .own0 b
  cases h
 exact e3 j x v hx h
def Qqn {d:CL}{pt:Pt}{ks:L_ Fr}{σ:St}{φ:Prop}{c:Cfg}(ok:Gc P T)(hN:JK P C n)(e:QsJ P C T n d pt ks σ φ=X c):Qqi P C Q pt ks σ φ c:=by
 have hn:=hN.n;unfold QsJ at e;split at e
 ·split at e
  ·rename_i hw;split at e
   ·rename_i hs;cases e;exact λh=>let ⟨a,b⟩:=QfH ok hN hs h;⟨a,λk=>AL.want hw b k⟩
   cases e
  cases e
 ·split at e
  ·rename_i hw;split at e
   ·rename_i hs;cases e;exact λh=>let ⟨a,b⟩:=QfH ok hN hs h;⟨a,λk=>AL.want hw b k⟩
   cases e
  cases e
 ·split at e
  ·rename_i hw;split at e
   ·rename_i hd;split at e
    ·rename_i ho;split at e
     ·rename_i hp;split at e
      ·rename_i hv;split at e
       ·rename_i hs;cases e;exact λh=>let ⟨a,b⟩:=Qou ok ho hd hp hv hs h;⟨a,λk=>AL.want hw b k⟩
       cases e
      cases e
     cases e
    cases e
   cases e
  cases e
 ·split at e
  ·rename_i hw;split at e
   ·rename_i hd;split at e
    ·rename_i cl ho;obtain⟨ce,ags,ts⟩:=cl;split at e
     ·rename_i hce;dsimp only at hce e;subst hce;split at e
      ·rename_i x y hxy;split at e
       ·rename_i Tx Ty hT;split at e
        ·rename_i p hp;split at e
         ·rename_i v hv;split at e
          ·rename_i hs;have ea:ags=#[x,y]:=by rw[<-QbB (xs:=ags),hxy]
           have et:ts=#[Tx,Ty]:=by rw[<-QbB (xs:=ts),hT]
           subst ea;subst et;cases e;exact λh=>let ⟨a,b⟩:=Qqj ok hN ho hd hp hv hs h;⟨a,λk=>AL.want hw b k⟩
          cases e
         cases e
        cases e
       cases e
      cases e
     cases e
    cases e
   cases e
  cases e
 ·split at e
  ·rename_i hw;cases e;exact λh=>⟨h.1,λk=>AL.want hw h.2 k⟩
  cases e
 ·split at e
  ·rename_i hw;split at e
   ·rename_i d hd;replace e:=Ya e;obtain⟨e1,e⟩:=e;rw[<-hn]at e1;split at e
    ·rename_i cl ho;split at e
     ·rename_i f vs φ1 he;split at e
      ·rename_i hs;cases e;refine λh=>?_;have h0:φ1:=by
        have hs':=hs;unfold cmV at hs';replace hs':=(Ya hs').2
        repeat (split at hs'<;>first | (cases hs';exact h.1) | skip)
        all_goals cases hs'
       obtain⟨a,b⟩:=Qqk (C:=C) ok ho he h0;obtain⟨_,b'⟩:=Qrq b hd e1 hN.g hs h;exact⟨a,λk=>AL.want hw b' k⟩
      cases e
     cases e
    cases e
   cases e
  cases e
 ·split at e
  ·rename_i hc;split at e
   ·cases e;exact λh=>⟨h.1,λk=>YE.condT hc h.2 k⟩
   cases e;exact λh=>⟨h.1,λk=>YE.condF hc h.2 k⟩
  cases e
 ·split at e
  ·rename_i u hu;cases e;exact λh=>⟨h.1,AK.weaken λa w=>R.say ⟨u,hu,h.2⟩⟩
  cases e
 ·split at e
  ·rename_i u hu;cases e;exact λh=>⟨h.1,AK.weaken λa w=>R.sayO ⟨u,hu,h.2⟩⟩
  cases e
 ·split at e
  ·rename_i ht;split at e
   ·rename_i hb;cases hbl:Nat.ble 619 _ with
    | true=>rw[hbl]at e;cases e
    | false=>rw[hbl]at e;cases e;exact λh=>⟨h,AK.weaken λa w O=>O.adopt (BK (by rw[hbl];rfl)) ht hb⟩
   cases e
  cases e
 ·split at e
  ·rename_i v hv;cases e;exact λh=>⟨h,AK.weaken λa w O=>O.denil hv⟩
  cases e
 ·split at e
  ·rename_i v hv;cases e;exact λh=>⟨h,AK.weaken λa w O=>O.denilO hv⟩
  cases e
 ·replace e:=Ya e;obtain⟨e1,e⟩:=e;simp only[QH,Di,Option.isNone_iff_eq_none]at e1;cases e;exact λh=>⟨h,AK.weaken λa w O=>O.ren _ _ e1.1.1 e1.1.2 e1.2⟩
 ·cases e;exact λh=>⟨h,AK.weaken λa w O=>O.kill _⟩
 ·split at e
  ·rename_i z rs hb;replace e:=Ya e;obtain⟨e1,e⟩:=e;rw[Di]at e1;split at e
   ·rename_i σ1 φ1 h1;split at e
    ·rename_i σ2 φ2 h2;cases e;exact λh=>⟨h.1,AK.weaken λa w O=>R.frz (.inl rfl) e1 hb h1 h2 h.2 O⟩
    cases e
   cases e
  cases e
 ·split at e
  ·rename_i cs hcs;split at e
   ·rename_i hi;split at e
    ·rename_i hb;cases hpb:Nat.beq _ _ with
     | true=>rw[hpb]at e;cases e
     | false=>
      rw[hpb]at e;cases hbl:Nat.ble 619 _ with
      | true=>rw[hbl]at e;cases e
      | false=>rw[hbl]at e;cases e;exact λh=>⟨h,AK.weaken λa w O=>R.adoptO hpb hcs hi (BK (by rw[hbl];rfl)) hb O⟩
    cases e
   cases e
  cases e
 ·split at e
  ·rename_i hf;split at e
   ·rename_i hp;replace e:=Ya e;obtain⟨e1,e⟩:=e;cases e;exact λh=>⟨h,AK.weaken λa w O=>O.to (QsK hf) (QsL hp) e1⟩
   cases e
  cases e
 cases e
def Qpz (ok:Gc P T)(hN:JK P C n):∀(k:Nat) {pt:Pt} {ks:L_ Fr} {σ:St} {φ:Prop} {c:Cfg},plain P C T n k pt ks σ φ=X c->Qqi P C Q pt ks σ φ c:=by
 have hn:=hN.n;intro k
 induction k with
 | zero=>intro pt ks σ φ c e;cases e;exact λO=>⟨O,id⟩
 | succ k ih=>
  intro pt ks σ φ c e;unfold plain at e;split at e
  ·rename_i h;cases h
  ·rename_i k' ops o l _ _ _ h;cases h;split at e
   ·rename_i hw;split at e
    ·rename_i hs;exact λO=>let ⟨a,b⟩:=ih e O;let ⟨a',b'⟩:=QfH ok hN hs a;⟨a',λk=>AL.want hw b' (b k)⟩
    cases e
   ·rename_i hw;split at e
    ·rename_i d hd;replace e:=Ya e;obtain⟨e1,e⟩:=e;rw[<-hn]at e1;exact λO=>let ⟨a,b⟩:=ih e O;⟨a,λk=>AL.pass hw hd e1 (b k)⟩
    rename_i hd;exact λO=>let ⟨a,b⟩:=ih e O;⟨a,λk=>AL.pass0 hw hd (b k)⟩
   cases e
  rename_i h _;cases h;split at e
  ·rename_i hc;exact λO=>let ⟨a,b⟩:=ih e O;⟨a,λk=>Qro hc (b k)⟩
  cases e
def QsM (ok:Gc P T)(hN:JK P C n):∀(ds:L_ CL) {pt:Pt} {ks:L_ Fr} {σ:St} {φ:Prop} {c:Cfg},go P C T n ds pt ks σ φ=X c->Qqi P C Q pt ks σ φ c:=by
 have hn:=hN.n;intro ds
 induction ds with
 | nil=>intro pt ks σ φ c e;cases e;exact λO=>⟨O,id⟩
 | cons d ds ih=>
  intro pt ks σ φ c e;unfold go at e;split at e
  ·rename_i h;cases h
  ·rename_i h;cases h;split at e
   ·rename_i hp;exact λO=>let ⟨a,b⟩:=ih e O;let ⟨a',b'⟩:=Qpz ok hN _ hp a;⟨a',λk=>b' (b k)⟩
   cases e
  rename_i h;cases h;split at e
  ·rename_i hp;exact λO=>let ⟨a,b⟩:=ih e O;let ⟨a',b'⟩:=Qqn ok hN hp a;⟨a',λk=>b' (b k)⟩
  cases e
def AK.go (ok:Gc P T)(hN:JK P C n)(ds:L_ CL){pt O:Pt}{ks h:L_ Fr}{σ σ':St}{φ:Prop}(e:Vm.go P C T n ds pt ks σ True=X ⟨O,h,σ',φ⟩)(hφ:φ)(k:AK P C Q O h σ'):AK P C Q pt ks σ:=
 (QsM ok hN ds e hφ).2 k
end
def Xw {α:Type}{l:L_ α}{f:α->L_ V}{j:Int}{x:α}(h:idx l j=X x):0<=j/\(l.map f)[j.toNat]? = X (f x):=⟨(Jd h).1,Xz (Jd h).2⟩
def YZ {α:Type}{l:L_ α}{j:Int}{x:α}{n:Nat}(h:idx l j=X x)(O:l.length=n):0<=j/\j<(n:Int):=by subst O;exact⟨(Jd h).1,QvI h⟩
def Qdd {a b:Bool}(h:(a&&b)=true):a=true:=(QH _ _▸h).1
def NQ {a b:Bool}(h:(a&&b)=true):b=true:=(QH _ _▸h).2
def HW {a b c:Bool}(h:(a&&b&&c)=true):a=true:=Qdd (Qdd h)
def HX {a b c:Bool}(h:(a&&b&&c)=true):b=true:=NQ (Qdd h)
def Vi {a b c:Bool}(h:(a&&b&&c)=true):c=true:=NQ h
def DJ.none_ {σ:St}{n m:Nat}(h:n=m):DJ σ n .none m:=h▸DJ.no
def QuJ {α:Type}{l:L_ α}{h d:Nat}(O:h<=l.length):V.own d h=V.own d (l.take h).length:=by rw[Wq,ZY O]
def HY {α β:Type}{us:L_ α}{y:L_ β}{n:Nat}(h:decide (n+y.length<=4294967296)=true)(e:us.length=y.length):decide (n+us.length<=4294967296)=true:=by rw[e];exact h
def Ui {α β:Type}{us:L_ α}{l y:L_ β}(e:us.length=y.length):l.length+us.length=(l++y).length:=by rw[e];simp
def Wb {rs:L_ (L_ V)}{n:Nat}(h:rs.length=n):n<=rs.length/\rs.take n=rs:=by subst h;exact⟨Yj _,BY⟩
def Ey (a b:Int):Bool:=decide (a<b)
def ltS (a b:ByteArray):Bool:=decide (a.data.toList.map UInt8.toNat<b.data.toList.map UInt8.toNat)
section
variable {P:Program}{C:Xr}{T:Uh}{Q:Exit->St->Prop}{n:Nat}{ops:Array Oper}{base:St}
def Kd.denil {o:Oper}{σ:St}{d:Nat}{v:V}{ob:O_ Ob}{ms:L_ (O_ Nat)}(h:Kd P C ops o σ (σ.addF ⟨d,v,ob⟩)):Kd P C ops o σ (σ.addF ⟨d,v.denil ms,ob⟩):=by
 intro a w hR K Q hK;refine h a w hR K Q λa' w' ⟨φ,O⟩=>hK a' w' ⟨φ,?_⟩;cases ob with
 | none=>exact RR.putDenil (σ:=σ) O
 | some ob=>exact RR.putDenil (σ:=σ.set d ob) O
def Mz.app {fr:S_}:∀{l m:S_},Mz fr l->Mz fr m->Mz fr (l++m):=by
 intro l
 induction l with
 | nil=>intro m _ h;exact h
 | cons p l ih=>intro m h O;exact⟨h.1,ih h.2 O⟩
def Hl.app {hp:H_}:∀{l m:H_},Hl hp l->Hl hp m->Hl hp (l++m):=by
 intro l
 induction l with
 | nil=>intro m _ h;exact h
 | cons p l ih=>intro m h O;exact⟨h.1,ih h.2 O⟩
def Ki.walk {β:Nat}{f:FuncId}{fn:Func}{c:Code}{args:L_ V}{hs:H_}{O:V->H_->Prop}(n:Nat)(hf:P.funcs[f]? = X fn)(hb:fn.body=X c)(hn:fn.ntmps=n)
  (hle:(Nat.ble args.length n&&Nat.ble n 619)=true) (h:∀C:Xr,JK P C n->β<=C.w0.heap.size->AK P C (QcC P fn.results.toList O) (.c c) [] ⟨Nv 0 args,hs⟩):Ki β P f args hs O:=by
 rw[QH]at hle;exact Ki.enter hf hb hn hle.1 hle.2 λC h1 _ h2=>h C h1 h2
def Ki.walkR {β:Nat}{f:FuncId}{fn:Func}{c:Code}{args:L_ V}{hs:H_}{O:V->H_->Prop}(n:Nat)(hf:P.funcs[f]? = X fn)(hb:fn.body=X c)(hn:fn.ntmps=n)
  (hle:(Nat.ble args.length n&&Nat.ble n 619)=true) (h:∀C:Xr,JK P C n->C.rnd=none->β<=C.w0.heap.size->AK P C (QcC P fn.results.toList O) (.c c) [] ⟨Nv 0 args,hs⟩):Ki β P f args hs O:=by
 rw[QH]at hle;exact Ki.enter hf hb hn hle.1 hle.2 h
def QP.walk {f:FuncId}{fn:Func}{c:Code}{args:L_ V}{hs:H_}{O:V->H_->Prop}(n:Nat)(hf:P.funcs[f]? = X fn)(hb:fn.body=X c)(hn:fn.ntmps=n)
  (hle:(Nat.ble args.length n&&Nat.ble n 619)=true) (h:∀C:Xr,JK P C n->AK P C (QcC P fn.results.toList O) (.c c) [] ⟨Nv 0 args,hs⟩):QP P f args hs O:=by
 rw[QH]at hle;exact QP.enter hf hb hn hle.1 hle.2 λC h1 _=>h C h1
def QP.walkR {f:FuncId}{fn:Func}{c:Code}{args:L_ V}{hs:H_}{O:V->H_->Prop}(n:Nat)(hf:P.funcs[f]? = X fn)(hb:fn.body=X c)(hn:fn.ntmps=n)
  (hle:(Nat.ble args.length n&&Nat.ble n 619)=true) (h:∀C:Xr,JK P C n->C.rnd=none->AK P C (QcC P fn.results.toList O) (.c c) [] ⟨Nv 0 args,hs⟩):QP P f args hs O:=by
 rw[QH]at hle;exact QP.enter hf hb hn hle.1 hle.2 h
def gives {r:V}{outs O:H_}(h:Hl O outs):Gives r outs r O:=⟨rfl,λ_ _ e=>h.look _ _ e⟩
end
def QlQ {α:Type}{f:α->L_ V}{l:L_ α}{n:Nat}(h:n=l.length):n<=(l.map f).length/\(l.map f).take n=l.map f:=by
 subst h;exact⟨by simp,UV (by simp)⟩
section
variable {τ ρ π:Type}
def DK (body:τ->π->O_ (τ⊕ρ)):τ->L_ π->O_ (τ⊕ρ)
 | s,[]=>X (.inl s)
 | s,p::l=>(body s p).bind λo=>Sum.elim (λh=>DK body h l) (λr=>X (.inr r)) o
open Classical in
noncomputable def HZ (body:τ->π->O_ (τ⊕ρ))(s:τ):L_ π->O_ (τ⊕ρ)
 | []=>X (.inl s)
 | [p]=>DK body s [p]
 | l=>if ∀h:L_ π,h.Perm l->DK body s h=DK body s l then DK body s l else none
def MB {body:τ->π->O_ (τ⊕ρ)}{s:τ}{l:L_ π}{o:τ⊕ρ}:HZ body s l=X o↔(∀O:L_ π,O.Perm l->DK body s O=DK body s l)/\DK body s l=X o:=by
 unfold HZ;split
 ·exact⟨λh=>⟨λO hl=>by rw[hl.eq_nil],h⟩,λh=>h.2⟩
 ·exact⟨λh=>⟨λO hl=>by rw[List.perm_singleton.1 hl],h⟩,λh=>h.2⟩
 split
 ·rename_i h;exact Iff.intro (λe=>⟨h,e⟩) (λe=>e.2)
 rename_i h;exact Iff.intro (λe=>(by cases e)) (λe=>absurd e.1 h)
def QcH {body:τ->π->O_ (τ⊕ρ)}:∀{l m:L_ π} {s:τ},DK body s (l++m)=(DK body s l).bind λo=>Sum.elim (λh=>DK body h m) (λr=>X (.inr r)) o:=by
 intro l
 induction l with
 | nil=>intro m s;rfl
 | cons p l O=>
  intro m s;simp only[List.cons_append,DK];cases body s p with
  | none=>rfl
  | some o=>
   cases o with
   | inl h=>exact O
   | inr r=>rfl
end
def YR {π:Type}(L:L_ (Nat×π))(h:Array Nat):L_ (Nat×π):=L.filter λq=>!h.contains q.1
def Qd3 {π:Type}{L:L_ (Nat×π)}(hn:(L.map (·.1)).Nodup){O:Array Nat}{q:Nat×π}(hq:q∈YR L O):(YR L O).Perm (q::YR L (O.push q.1)):=by
 have key:∀(l:L_ (Nat×π)),(l.map (·.1)).Nodup->∀p:Nat×π->Bool,q∈l->p q=true->(l.filter p).Perm (q::l.filter λe=>p e&&!(e.1==q.1)):=by
  intro l
  induction l with
  | nil=>intro _ p h;simp at h
  | cons y l ih=>
   intro hn p hx hp;rw[Gp,Lg]at hn;rcases XT.1 hx with rfl | hx
   ·have h1:l.filter (λe=>p e&&!(e.1==q.1))=l.filter p:=by
     apply List.filter_congr;intro e he;have:e.1≠q.1:=λh=>hn.1 (by rw[<-h];exact List.mem_map_of_mem (f:=λq:Nat×π=>q.1) he);simp[this]
    simp[Bl,hp,h1]
   have hne:y.1≠q.1:=λh=>hn.1 (by rw[h];exact List.mem_map_of_mem (f:=λq:Nat×π=>q.1) hx);have h2:=ih hn.2 p hx hp;by_cases hy:p y=true
   ·have e1:(y::l).filter p=y::l.filter p:=by simp[Bl,hy]
    have e2:((y::l).filter λe=>p e&&!(e.1==q.1))=y::l.filter λe=>p e&&!(e.1==q.1):=by simp[Bl,hy,hne]
    rw[e1,e2];exact(List.Perm.cons y h2).trans (List.Perm.swap _ _ _)
   have e1:(y::l).filter p=l.filter p:=by simp[Bl,hy]
   have e2:((y::l).filter λe=>p e&&!(e.1==q.1))=l.filter λe=>p e&&!(e.1==q.1):=by simp[Bl,hy]
   rw[e1,e2];exact h2
 have e2:YR L (O.push q.1)=L.filter λe=>(!O.contains e.1)&&!(e.1==q.1):=by
  unfold YR;apply List.filter_congr;intro e _;rw[IZ];simp[Array.mem_push]
 rw[e2];unfold YR at hq ⊢;rw[Mx]at hq;exact key L hn _ hq.1 hq.2
def Qqo {α:Type}:∀{l m:L_ α},l.Nodup->(∀x∈l,x∈m)->m.length<=l.length->l.Perm m:=by
 classical
 intro l
 induction l with
 | nil=>intro m _ _ h;have:m=[]:=PP.1 (Nat.le_zero.1 h);subst this;exact .nil
 | cons x l ih=>
  intro m O hs hl;rw[Lg]at O;have hx:=hs x YY;have hp:=List.perm_cons_erase hx;refine(List.Perm.cons x (ih O.2 (λy hy=>?_) ?_)).trans hp.symm
  ·have hne:y≠x:=λe=>O.1 (e▸hy);exact(List.mem_erase_of_ne hne).2 (hs y (Kb _ hy))
  have:=hp.length_eq;simp at this hl;omega
section
variable {P:Program}{C:Xr}{Q:Exit->St->Prop}{σ σ':St}{ks:L_ Fr}{o:Oper}
def AK.weakenE {ι:Type _}{f:ι->St}{pt:Pt}(h:∀a w,R C σ a w->∃i,R C (f i) a w)(k:∀i,AK P C Q pt ks (f i)):AK P C Q pt ks σ:=by
 cases pt with
 | c c=>exact λa w O=>let ⟨i,hi⟩:=h a w O;k i a w hi
 | o ops l=>exact λa w O=>let ⟨i,hi⟩:=h a w O;k i a w hi
 | x e=>exact λa w O=>let ⟨i,hi⟩:=h a w O;k i a w hi
def IK {κ α:Type}(e:κ->V)(f:α->V)(L:L_ (Nat×(κ×α))):L_ (Nat×(V×V)):=L.map λq=>(q.1,(e q.2.1,f q.2.2))
def AK.openMap {κ α:Type}[DecidableEq κ]{K:TypeId}{e:κ->V}{val:κ->Value}{f:α->V}{lt:L_ (κ×α)}{b:Nat}{pt:Pt}(hk:UZ P K e val)(hb:look σ.hp b=X (.map (QM e f lt)))
  (h:∀bm O (L:L_ (Nat×(κ×α))),(L.map (·.1)).Nodup->(L.map Prod.snd).Perm lt->AK P C Q pt ks (σ.set b (.mapX bm O (IK e f L) (QM e f lt)))):AK P C Q pt ks σ:=by
 have key:∀a w,R C σ a w->∃i:{ i:Nat×Nat×L_ (Nat×(κ×α)) // (i.2.2.map (·.1)).Nodup/\(i.2.2.map Prod.snd).Perm lt },R C (σ.set b (.mapX i.1.1 i.1.2.1 (IK e f i.1.2.2) (QM e f lt))) a w:=by
  intro a w ⟨φ,hr⟩;rcases hr.heap b _ hb with⟨B,hB,hrep⟩|⟨_,h2⟩
  ·obtain⟨es,O,h1,h2,h3,h4,h5,h6⟩:=hrep;have hL:∀l:L_ MapEntry,(∀x∈l,x∈es.toList)->∃L:L_ (MapEntry×(κ×α)),L.map Prod.fst=l/\∀q∈L,q.2∈lt/\Xu (Xg C φ w) w q.1.key (e q.2.1)/\Xu (Xg C φ w) w q.1.val (f q.2.2):=by
    intro l
    induction l with
    | nil=>intro _;exact⟨[],rfl,λq hq=>by simp at hq⟩
    | cons x l ih=>
     intro hx;obtain⟨L,e1,e2⟩:=ih λy hy=>hx y (Kb _ hy);obtain⟨p,hp,a1,a2⟩:=h5 x (hx x YY);obtain⟨q,hq,rfl⟩:=Yv.1 hp;exact⟨(x,q)::L,by rw[Gp,e1],λy hy=>by
      rcases XT.1 hy with rfl | hy
      ·exact⟨hq,a1,a2⟩
      exact e2 y hy⟩
   obtain⟨L,e1,e2⟩:=hL es.toList λ_ h=>h;have hn:=(PT hk.einj).1 h3;have hborn:(L.map (·.1.born)).Nodup:=by
    have:L.map (·.1.born)=es.toList.map (·.born):=by rw[<-e1,TM];rfl
    rw[this];exact h2.2.1
   have hkeys:(L.map λq=>q.2.1).Nodup:=by
    have h7:(L.map λq=>q.1.key).Nodup:=by
     have:(L.map λq=>q.1.key)=es.toList.map (·.key):=by rw[<-e1,TM];rfl
     rw[this];exact h2.2.2
    have h8:(L.map λq=>q.1.key)=(L.map λq=>q.2.1).map val:=by
     rw[TM];apply TL;intro q hq;exact hk.inv _ _ _ _ (e2 q hq).2.1
    rw[h8]at h7;exact(Zy.1 h7).imp λhab e'=>hab (by rw[e'])
   have hperm:(L.map Prod.snd).Perm lt:=by
    have hnd:(L.map Prod.snd).Nodup:=by
     have:(L.map λq=>q.2.1)=(L.map Prod.snd).map Prod.fst:=by rw[TM];rfl
     rw[this]at hkeys;exact(Zy.1 hkeys).imp λhab e'=>hab (by rw[e'])
    have hsub:∀q∈L.map Prod.snd,q∈lt:=λq hq=>by
     obtain⟨y,hy,rfl⟩:=Yv.1 hq;exact(e2 y hy).1
    have hlen:lt.length<=(L.map Prod.snd).length:=by
     have:(L.map Prod.fst).length=es.toList.length:=by rw[e1]
     simp[QM]at h4 this ⊢;omega
    have hltnd:lt.Nodup:=(Zy.1 hn).imp λhab e'=>hab (by rw[e']);exact Qqo hnd hsub hlen
   have hes:es=(L.map Prod.fst).toArray:=by rw[e1]
   have hfst:(L.map λq=>(q.1,(e q.2.1,f q.2.2))).map Prod.fst=L.map Prod.fst:=by simp
   refine⟨⟨(B.b,O,L.map λq=>(q.1.born,q.2)),by show((L.map _).map _).Nodup;rw[TM];exact hborn,by show((L.map _).map _).Perm _;rw[TM];exact hperm⟩,φ,?_⟩;refine hr.say' hb (λB' hB' _=>?_) (λe'=>e'.elim);rw[hB]at hB';cases hB';refine⟨rfl,L.map λq=>(q.1,(e q.2.1,f q.2.2)),by simp[IK],by rw[h1,hfst,hes],by rw[hfst,<-hes];exact h2,h3,?_,λq hq=>?_⟩
   ·have:(L.map λq=>(q.1,(e q.2.1,f q.2.2))).map Prod.snd=QM e f (L.map Prod.snd):=by simp[QM]
    rw[this];exact hperm.map _
   obtain⟨q',hq',rfl⟩:=Yv.1 hq;exact(e2 q' hq').2
  exact h2.elim
 exact AK.weakenE key λi=>h _ _ _ i.2.1 i.2.2
def R.closeMap {b bm O:Nat}{L:L_ (Nat×(V×V))}{l:L_ (V×V)}(hb:look σ.hp b=X (.mapX bm O L l)){a:Act}{w:World}(h:R C σ a w):R C (σ.set b (.map l)) a w:=by
 obtain⟨φ,hr⟩:=h;refine⟨φ,hr.say' hb (λB hB hrep=>?_) (λe'=>e'.elim)⟩;obtain⟨h1,M,rfl,h2,h3,h4,h5,h6⟩:=hrep;refine⟨(M.map Prod.fst).toArray,O,h2,h3,h4,by have:=h5.length_eq;simpa using this,λx hx=>?_,λp hp=>?_⟩
 ·obtain⟨q,hq,rfl⟩:=Yv.1 (by simpa using hx:x∈M.map Prod.fst);exact⟨q.2,h5.mem_iff.1 (List.mem_map_of_mem hq),(h6 q hq).1,(h6 q hq).2⟩
 obtain⟨q,hq,rfl⟩:=Yv.1 (h5.mem_iff.2 hp);exact⟨q.1,by simpa using (⟨q.2.1,q.2.2,hq⟩:∃a b,(q.1,a,b)∈M),(h6 q hq).1,(h6 q hq).2⟩
def AK.closeMap {b bm O:Nat}{L:L_ (Nat×(V×V))}{l:L_ (V×V)}{pt:Pt}(hb:look σ.hp b=X (.mapX bm O L l))(k:AK P C Q pt ks (σ.set b (.map l))):AK P C Q pt ks σ:=AK.weaken (λ_ _ h=>R.closeMap hb h) k
def Qc.range {T d b bm O K E:Nat}{x:Operand}{L:L_ (Nat×(V×V))}{l:L_ (V×V)}(ho:o.op=.range T x)(hd:o.dst=X d)(hn:B_ d C)(hx:σ.opd x=X (.map b))(hb:look σ.hp b=X (.mapX bm O L l))
  (hT:OQ P T=X (K,E)) (hf:look σ.hp d=none):Qc P C o σ ((σ.set d (.itr bm O #[] none)).put d (.loc d 0 0)):=by
 refine Qc.val λφ a w hr=>?_;obtain⟨B,hB,hev⟩:=(hr.opd hx).map_inv;obtain⟨rfl,M,rfl,h2,_⟩:=hr.block hB hb;refine⟨.pointer (X ⟨w.heap.size,0,none⟩),w.alloc (.mapIter (X B.b) O #[] O),ext φ d ⟨w.heap.size,1,0,[],0⟩,?_,?_⟩
 ·simp only[execOp,ho,hev,Xd,run_range_map w T K E B.b _ O (Cx hT) h2,Xf,Xp]
 rw[hd];refine(hr.alloc (cap:=1) (z:=0) hf (C.slot hn) (ob:=.itr B.b O #[] none) (obj:=.mapIter (X B.b) O #[] O) ⟨heap_alloc_new w _,rfl,λx h=>by cases h⟩).put (XH hn) ?_;exact .loc d 0 0 ⟨w.heap.size,1,0,[],0⟩ (XF _ _ _)
def Qc.range0 {T d K E:Nat}{x:Operand}(ho:o.op=.range T x)(hd:o.dst=X d)(O:B_ d C)(hx:σ.opd x=X (.lit (.map none)))(hT:OQ P T=X (K,E))(hf:look σ.hp d=none):
  Qc P C o σ ((σ.set d .itr0).put d (.loc d 0 0)):=by
 refine Qc.val λφ a w hr=>?_;have h:=(hr.opd hx).lit_inv;refine⟨.pointer (X ⟨w.heap.size,0,none⟩),w.alloc (.mapIter none 0 #[] 0),ext φ d ⟨w.heap.size,1,0,[],0⟩,?_,?_⟩
 ·simp only[execOp,ho,h,Xd,run_range_nilMap w T K E (Cx hT),Xf,Xp]
 rw[hd];refine(hr.alloc (cap:=1) (z:=0) hf (C.slot O) (ob:=.itr0) (obj:=.mapIter none 0 #[] 0) ⟨#[],0,heap_alloc_new w _,rfl⟩).put (XH O) ?_;exact .loc d 0 0 ⟨w.heap.size,1,0,[],0⟩ (XF _ _ _)
def Qc.next0 {d b:Nat}{x:Operand}(ho:o.op=.next x false)(hd:o.dst=X d)(hn:B_ d C)(O:σ.opd x=X (.loc b 0 0))(hb:look σ.hp b=X .itr0):Qc P C o σ (σ.put d (.tup [.b false])):=by
 refine Qc.val λφ a w hr=>?_;obtain⟨B,hB,h⟩:=(hr.opd O).loc_inv;obtain⟨s,c,h1,h0⟩:=hr.block hB hb;refine⟨.tuple #[.bool false],w,φ,?_,?_⟩
 ·simp only[Fc,Om,h0]at h;simp only[execOp,ho,h,Xd];have:(Instr.next (.pointer (X ⟨B.b,0,none⟩)) false o.type).run P w=.ok (.tuple #[.bool false]) w:=by
   simp only[Instr.next,getObj,Xd,Sem.run,h1,Result.andThen];rfl
  rw[this];rfl
 rw[hd];refine hr.put (XH hn) (.tup _ _ rfl λj x v O hv=>?_);cases j with
 | zero=>simp at O hv;subst O;subst hv;exact .dat (.b _)
 | succ j=>simp at O
def Qc.entry {d b m bm h:Nat}{x:Operand}{L:L_ (Nat×(V×V))}{l:L_ (V×V)}{seen:Array Nat}{q:Nat×(V×V)}(ho:o.op=.entry x)(hd:o.dst=X d)(hn:B_ d C)(O:σ.opd x=X (.loc b 0 0))
  (hb:look σ.hp b=X (.itr bm h seen (X q.1))) (hm:look σ.hp m=X (.mapX bm h L l)) (hq:q∈L):Qc P C o σ (σ.put d (.tup [q.2.1,q.2.2])):=by
 refine Qc.same hd hn λφ a w hr=>?_;obtain⟨B,hB,hev⟩:=(hr.opd O).loc_inv;obtain⟨h1,h0,h2⟩:=hr.block hB hb;obtain⟨s0,rfl⟩:=h2 _ rfl;rcases hr.heap m _ hm with⟨M,hM,g1,N,rfl,g2,g3,g4,g5,g6⟩|⟨_,e'⟩
 ·obtain⟨q,hn,rfl⟩:=Yv.1 hq;refine⟨.tuple #[q.1.key,q.1.val],?_,.tup _ _ rfl λj x v O hv=>?_⟩
  ·simp only[Fc,Om,h0]at hev;subst g1;have he:=run_entry_at (P:=P) w B.b M.b h s0 _ h q.1 h1 g2 (by simpa using (⟨q.2.1,q.2.2,hn⟩:∃a b,(q.1,a,b)∈N)) g3.2.1;simp only[execOp,ho,hev,Xd,he,Xf,Xp]
  cases j with
  | zero=>simp at O hv;subst O;subst hv;exact .dat (g6 q hn).1
  | succ j=>
   cases j with
   | zero=>simp at O hv;subst O;subst hv;exact .dat (g6 q hn).2
   | succ j=>simp at O
 exact e'.elim
def QhV {π:Type}{N:L_ (MapEntry×π)}{h:Array Nat}:(leftOf (N.map Prod.fst).toArray h).toList=(N.filter λq=>!h.contains q.1.born).map Prod.fst:=by
 simp only[leftOf,Array.toList_filter,List.filter_map];rfl
def QjY {π:Type}{N:L_ (MapEntry×π)}{h:Array Nat}:YR (N.map λq=>(q.1.born,q.2)) h=(N.filter λq=>!h.contains q.1.born).map λq=>(q.1.born,q.2):=by
 simp only[YR,List.filter_map];rfl
def AK.next {d b m bm h:Nat}{x:Operand}{ops:Array Oper}{rest:L_ Oper}{L:L_ (Nat×(V×V))}{l:L_ (V×V)}{O:Array Nat}{cur:O_ Nat}(hg:o.guard=none)(ho:o.op=.next x false)(hd:o.dst=X d)(hn:B_ d C)
  (hx:σ.opd x=X (.loc b 0 0)) (hb:look σ.hp b=X (.itr bm h O cur)) (hm:look σ.hp m=X (.mapX bm h L l)) (hbm:Nat.beq b m=false)
  (hdone:YR L O=[]->AK P C Q (.o ops rest) ks (σ.put d (.tup [.b false])))
  (hpick:∀q∈YR L O,AK P C Q (.o ops rest) ks ((σ.set b (.itr bm h (O.push q.1) (X q.1))).put d (.tup [.b true,.J,.J]))):AK P C Q (.o ops (o::rest)) ks σ:=by
 intro a w ⟨φ,hr⟩;simp only[wpListIn,Region.wanted,hg,if_true];obtain⟨B,hB,hev⟩:=(hr.opd hx).loc_inv;obtain⟨h1,h0,h2⟩:=hr.block hB hb;simp only[Fc,Om,h0]at hev;rcases hr.heap m _ hm with⟨M,hM,g1,N,rfl,g2,g3,g4,g5,g6⟩|⟨_,e'⟩
 ·subst g1;refine⟨λ_ _=>trivial,?_⟩;rw[Oper.semAt_eq _ _ _ (by rw[ho];intro c hc;cases hc)];have hold:∀y∈(N.map Prod.fst).toArray.toList,y.born<h:=g3.1;rcases run_next_at (P:=P) w o.type B.b M.b h h O _ h h1 g2 hold (Yj _)with⟨k1,k2⟩|⟨e,k1,w1,k2,k3⟩
  ·simp only[execOp,ho,hev,Xd,k2,Xf,Xp];rw[Oper.uponIn_value];refine hdone ?_ _ _ ⟨φ,?_⟩
   ·have h3:(leftOf (N.map Prod.fst).toArray O).toList.length=0:=by simpa using k1
    rw[QhV]at h3;exact PP.1 (by simpa[QjY] using h3)
   rw[hd];refine hr.put (XH hn) (.tup _ _ rfl λj x v hx hv=>?_);cases j with
   | zero=>simp at hx hv;subst hx;subst hv;exact .dat (.b _)
   | succ j=>simp at hx
  simp only[execOp,ho,hev,Xd,k3,Xf,Xp];rw[Oper.uponIn_value];rw[QhV]at k1;obtain⟨q,hq,rfl⟩:=Yv.1 k1;refine hpick (q.1.born,q.2) (by rw[QjY];exact Yv.2 ⟨q,hq,rfl⟩) _ _ ?_;have hr1:RR C φ σ a w1:=by
   rcases k2 with rfl | rfl
   ·exact hr
   exact hr.step rfl rfl rfl (Yj _) (λ_ _=>rfl)
  have hheap:w1.heap=w.heap:=by rcases k2 with rfl | rfl<;>rfl
  have hlt:=(hr1.lt b B B.b hB B.self).1;have h4:RR C φ (σ.set b (.itr M.b h (O.push q.1.born) (X q.1.born))) a (Go.ChangeMaps.setBlock w1 B.b (.mapIter (X M.b) h (O.push q.1.born) h)):=by
   refine hr1.write hB (by rfl) (by rfl) (by rfl) ?_ ?_ ?_
   ·simp[Go.ChangeMaps.setBlock]
   ·intro k hk;simp only[Go.ChangeMaps.setBlock];exact GT _ (λe=>hk e)
   refine⟨?_,h0,λx e=>?_⟩
   ·simp[Go.ChangeMaps.setBlock,Qcy,hlt]
   cases e;exact⟨O,rfl⟩
  refine⟨φ,?_⟩;rw[hd];refine h4.put (XH hn) (.tup _ _ rfl λj x v hx hv=>?_);cases j with
  | zero=>simp at hx hv;subst hx;subst hv;exact .dat (.b _)
  | succ j=>
   cases j with
   | zero=>simp at hx hv;subst hv;exact .dat (.J _)
   | succ j=>
    cases j with
    | zero=>simp at hx hv;subst hv;exact .dat (.J _)
    | succ j=>simp at hx
 exact e'.elim
def Qm0 {κ α:Type}{e:κ->V}{f:α->V}{L:L_ (Nat×(κ×α))}{h:Array Nat}:YR (IK e f L) h=IK e f (YR L h):=by
 simp only[YR,IK,List.filter_map];rfl
def AK.nextT {d b m bm O:Nat}{x:Operand}{ops:Array Oper}{rest:L_ Oper}{κ α:Type}{e:κ->V}{f:α->V}{L:L_ (Nat×(κ×α))}{l:L_ (V×V)}{seen:Array Nat}{cur:O_ Nat}(hg:o.guard=none)(ho:o.op=.next x false)(hd:o.dst=X d)
  (hn:B_ d C) (hx:σ.opd x=X (.loc b 0 0)) (hb:look σ.hp b=X (.itr bm O seen cur)) (hm:look σ.hp m=X (.mapX bm O (IK e f L) l)) (hbm:Nat.beq b m=false)
  (hdone:YR L seen=[]->AK P C Q (.o ops rest) ks (σ.put d (.tup [.b false])))
  (hpick:∀x k v,(x,(k,v))∈YR L seen->AK P C Q (.o ops rest) ks ((σ.set b (.itr bm O (seen.push x) (X x))).put d (.tup [.b true,.J,.J]))):AK P C Q (.o ops (o::rest)) ks σ:=by
 refine AK.next hg ho hd hn hx hb hm hbm (λh=>hdone ?_) (λq hq=>?_)
 ·rw[Qm0]at h;simpa[IK] using h
 rw[Qm0]at hq;obtain⟨q',hq',rfl⟩:=Yv.1 hq;exact hpick q'.1 q'.2.1 q'.2.2 hq'
def Qc.entryT {d b m bm h:Nat}{x:Operand}{κ α:Type}{e:κ->V}{f:α->V}{L:L_ (Nat×(κ×α))}{l:L_ (V×V)}{O:Array Nat}{y:Nat}{k:κ}{v:α}(ho:o.op=.entry x)(hd:o.dst=X d)(hn:B_ d C)(hx:σ.opd x=X (.loc b 0 0))
  {s0:Array Nat} (hq:(y,(k,v))∈YR L s0) (hb:look σ.hp b=X (.itr bm h O (X y))) (hm:look σ.hp m=X (.mapX bm h (IK e f L) l)):Qc P C o σ (σ.put d (.tup [e k,f v])):=
 Qc.entry (q:=(y,(e k,f v))) ho hd hn hx hb hm (Yv.2 ⟨(y,(k,v)),(Mx.1 hq).1,rfl⟩)
def AK.loopOnce {c:Code}(h:AK P C Q (.c c) (.cut (λ_=>False)::ks) σ):AK P C Q (.c (.loop c)) ks σ:=by
 intro a w hR;refine wpIn_loop_rounds 1 ?_;rw[roundsIn_succ];refine wpIn_mono (h a w hR) ?_;rintro e a' w' ⟨σ',O,h2⟩;cases e<;>first | exact O.elim | exact⟨σ',O,h2⟩
def Qwn {τ ρ π:Type}(body:τ->π->O_ (τ⊕ρ))(L:L_ (Nat×π))(E:τ->Array Nat->St->Prop)(O:ρ->Exit->St->Prop)(PD:τ->Exit->St->Prop)(s:τ)(h:Array Nat):Exit->St->Prop:=λe σ'=>
 (YR L h=[]/\e≠.normal/\PD s e σ')\/∃q∈YR L h,(∃s',body s q.2=X (.inl s')/\e=.normal/\E s' (h.push q.1) σ')\/(∃r,body s q.2=X (.inr r)/\e≠.normal/\O r e σ')
def AK.range {τ ρ π:Type}{body:τ->π->O_ (τ⊕ρ)}{c:Code}{lt:L_ π}{L:L_ (Nat×π)}(E:τ->Array Nat->St->Prop)(Post:ρ->Exit->St->Prop)(PD:τ->Exit->St->Prop){s0:τ}{r:τ⊕ρ}(hn:(L.map (·.1)).Nodup)(hp:(L.map Prod.snd).Perm lt)
  (hr:HZ body s0 lt=X r) (h0:E s0 #[] σ)
  (round:∀s O σ,E s O σ->(∀q∈YR L O,∃o,body s q.2=X o)->AK P C (Qwn body L E Post PD s O) (.c c) [] σ)
  (hQ:∀e σ',(Sum.elim (λs=>PD s e σ') (λq=>Post q e σ') r)->AK P C Q (.x e) ks σ'):AK P C Q (.c (.loop c)) ks σ:=by
 obtain⟨hperm,hrun⟩:=MB.1 hr;have key:∀(k:Nat) (s:τ) (O:Array Nat),(YR L O).length=k->(∃dn,(dn++(YR L O).map Prod.snd).Perm lt/\DK body s0 dn=X (.inl s))->∀σ a w,E s O σ->R C σ a w->
   Code.roundsIn C.F 0 P c (up C λe σ'=>Sum.elim (λs=>PD s e σ') (λq=>Post q e σ') r) (k+1) a w:=by
  intro k
  induction k with
  | zero=>
   rintro s O hk ⟨dn,hd1,hd2⟩ σ a w hE hR;have hnil:=PP.1 hk;rw[roundsIn_succ];refine wpIn_mono (round s O σ hE (λq hq=>by rw[hnil]at hq;cases hq) a w hR) ?_;rintro e a' w' ⟨σ',hq,hR'⟩;rcases hq with⟨_,h2,h3⟩|⟨q,hq,_⟩
   ·rw[hnil]at hd1;have:DK body s0 dn=X r:=by rw[<-hrun];exact hperm dn (by simpa using hd1)
    rw[this]at hd2;cases hd2;cases e<;>first | exact absurd rfl h2 | exact⟨σ',h3,hR'⟩
   rw[hnil]at hq;cases hq
  | succ k ih=>
   rintro s O hk ⟨dn,hd1,hd2⟩ σ a w hE hR;rw[roundsIn_succ];have hall:∀q∈YR L O,∃o,body s q.2=X o/\∃rest,(dn++q.2::rest).Perm lt/\rest=(YR L (O.push q.1)).map Prod.snd:=λq hq=>by
    have h1:=(Qd3 hn hq).map Prod.snd;have h2:(dn++q.2::(YR L (O.push q.1)).map Prod.snd).Perm lt:=((List.Perm.append_left dn h1).symm).trans hd1;have h3:DK body s0 (dn++q.2::(YR L (O.push q.1)).map Prod.snd)=X r:=by rw[<-hrun];exact hperm _ h2
    rw[QcH,hd2]at h3;simp only[Qa,Sum.elim_inl,DK]at h3;cases hb:body s q.2 with
    | none=>rw[hb]at h3;cases h3
    | some o=>exact⟨o,rfl,_,h2,rfl⟩
   refine wpIn_mono (round s O σ hE (λq hq=>let ⟨o,h,_⟩:=hall q hq;⟨o,h⟩) a w hR) ?_;rintro e a' w' ⟨σ',hq,hR'⟩;rcases hq with⟨h1,_,_⟩|⟨q,hq,⟨s',h1,rfl,h3⟩|⟨r',h1,h2,h3⟩⟩
   ·rw[h1]at hk;cases hk
   ·obtain⟨_,_,rest,h5,h6⟩:=hall q hq;refine ih s' (O.push q.1) ?_ ⟨dn++[q.2],?_,?_⟩ σ' a' w' h3 hR'
    ·have:=(Qd3 hn hq).length_eq;simp at this;omega
    ·rw[Ga,List.singleton_append,<-h6];exact h5
    rw[QcH,hd2];simp only[Qa,Sum.elim_inl,DK,h1]
   obtain⟨_,_,rest,h5,h6⟩:=hall q hq;have h7:DK body s0 (dn++q.2::rest)=X r:=by rw[<-hrun];exact hperm _ h5
   rw[QcH,hd2]at h7;simp only[Qa,Sum.elim_inl,DK,h1,Sum.elim_inr]at h7;cases h7;cases e<;>first | exact absurd rfl h2 | exact⟨σ',h3,hR'⟩
 intro a w hR;have hL:YR L #[]=L:=by simp[YR]
 refine wpIn_mono (wpIn_loop_rounds _ (key _ s0 #[] rfl ⟨[],by rw[hL];simpa using hp,rfl⟩ σ a w h0 hR)) ?_;rintro e a' w' ⟨σ',h1,h2⟩;exact hQ e σ' h1 a' w' h2
end
structure Yr where
 kills:List Nat
 sets:List (Nat×Ob)
 put:Option (Nat×V)
def St.sets (σ:St):H_->St
 | []=>σ
 | (o,ob)::r=>(σ.sets r).set o ob
def Yr.run (M:Yr)(σ:St):St:=match M.put with
 | none=>(σ.killL M.kills).sets M.sets
 | some (d,v)=>((σ.killL M.kills).sets M.sets).put d v
def EK (σ B:St):Prop:=(∀t v,look B.fr t=X v->look σ.fr t=X v)/\∀p ob,look B.hp p=X ob->look σ.hp p=X ob
def SM {b:Nat}:∀(l:S_) (t:Nat),look (HU b l) t=(look l t).map (V.kill b):=by
 intro l
 induction l with
 | nil=>intro t;rfl
 | cons p l h=>
  obtain⟨k,v⟩:=p;intro t;by_cases e:k=t
  ·subst e;rw[HU,QB,QB];rfl
  rw[HU,Qx _ _ e,Qx _ _ e];exact h t
def MC {b:Nat}:∀(l:H_) (t:Nat),look (UN b l) t=if t=b then none else(look l t).map (Ob.kill b):=by
 intro l t;by_cases h:t=b
 ·rw[if_pos h];cases hl:look (UN b l) t with
  | none=>rfl
  | some ob=>obtain⟨O,_⟩:=WF _ _ _ hl;exact absurd h O
 rw[if_neg h];cases hl:look l t with
 | none=>
  cases hk:look (UN b l) t with
  | none=>rfl
  | some ob=>obtain⟨_,ob',O,_⟩:=WF _ _ _ hk;rw[hl]at O;cases O
 | some ob=>exact AJ _ _ _ h hl
def EK.kill {σ B:St}(h:EK σ B)(b:Nat):EK (σ.kill b) (B.kill b):=by
 refine⟨λt v hv=>?_,λp ob O=>?_⟩
 ·have hv:look (HU b B.fr) t=X v:=hv;show look (HU b σ.fr) t=X v;rw[SM]at hv ⊢;obtain⟨u,hu,rfl⟩:=Yc.1 hv;rw[h.1 t u hu];rfl
 have O:look (UN b B.hp) p=X ob:=O;show look (UN b σ.hp) p=X ob;rw[MC]at O ⊢;split at O
 ·cases O
 rename_i hne;rw[if_neg hne];obtain⟨u,hu,rfl⟩:=Yc.1 O;rw[h.2 p u hu];rfl
def EK.killL : ∀{l:L_ Nat} {σ B:St},EK σ B->EK (σ.killL l) (B.killL l):=by
 intro l
 induction l with
 | nil=>intro σ B h;exact h
 | cons b l O=>intro σ B h;exact O (h.kill b)
def EK.set {σ B:St}(h:EK σ B)(o:Nat)(ob:Ob):EK (σ.set o ob) (B.set o ob):=by
 refine⟨h.1,λp u O=>?_⟩;by_cases e:p=o
 ·subst e;rw[St.look_set_same]at O ⊢;exact O
 rw[St.look_set_other _ _ (Ne.symm e)]at O ⊢;exact h.2 p u O
def EK.sets : ∀{l:H_} {σ B:St},EK σ B->EK (σ.sets l) (B.sets l):=by
 intro l
 induction l with
 | nil=>intro σ B h;exact h
 | cons p l O=>intro σ B h;exact(O h).set p.1 p.2
def EK.put {σ B:St}(h:EK σ B)(d:Nat)(v:V):EK (σ.put d v) (B.put d v):=by
 refine⟨λt u O=>?_,h.2⟩;have O:look ((d,v)::B.fr) t=X u:=O;show look ((d,v)::σ.fr) t=X u;by_cases e:d=t
 ·subst e;rw[QB]at O ⊢;exact O
 rw[Qx _ _ e]at O ⊢;exact h.1 t u O
def EK.run {σ B:St}(h:EK σ B)(M:Yr):EK (M.run σ) (M.run B):=by
 unfold Yr.run;split
 ·exact h.killL.sets
 exact h.killL.sets.put _ _
def Yr.keeps (M:Yr)(t:Nat)(v:V):Bool:=M.kills.all (λb=>v.free b)&&(match M.put with | none=>true | some (d,_)=>!(Nat.beq d t))
def Yr.keepsO (M:Yr)(p:Nat):Bool:=M.kills.all (λb=>!(Nat.beq b p))&&M.sets.all (λq=>!(Nat.beq q.1 p))
def Ob.keep1 (b:Nat):Ob->Bool
 | .var h=>h.all (V.freeC b)
 | .lp _ _ h _=>h.all (V.freeC b)
 | _=>true
def Qqp : ∀{l:L_ Nat} {σ:St} {t:Nat} {v:V},l.all (λb=>v.free b)=true->look σ.fr t=X v->look (σ.killL l).fr t=X v:=by
 intro l
 induction l with
 | nil=>intro σ t v _ h;exact h
 | cons b l ih=>
  intro σ t v O h;rw[TI,QH]at O;refine ih O.2 ?_;show look (HU b σ.fr) t=X v;rw[SM,h,GR,V.kill,O.1];rfl
def QlR : ∀{l:H_} {σ:St},(σ.sets l).fr=σ.fr:=by
 intro l
 induction l with
 | nil=>intro σ;rfl
 | cons p l h=>intro σ;exact h
def Yr.keeps_look {M:Yr}{σ:St}{t:Nat}{v:V}(O:M.keeps t v=true)(h:look σ.fr t=X v):look (M.run σ).fr t=X v:=by
 unfold Yr.keeps at O;rw[QH]at O;have h1:look ((σ.killL M.kills).sets M.sets).fr t=X v:=by rw[QlR];exact Qqp O.1 h
 unfold Yr.run;split
 ·exact h1
 rename_i d u hp;rw[hp]at O;have hne:d≠t:=FZ O.2;show look ((d,u)::_) t=X v;rw[Qx _ _ hne];exact h1
def QlS : ∀{l:L_ Nat} {σ:St} {p:Nat},look σ.hp p=none->look (σ.killL l).hp p=none:=by
 intro l
 induction l with
 | nil=>intro σ p h;exact h
 | cons b l O=>
  intro σ p h;refine O ?_;show look (UN b σ.hp) p=none;rw[MC,h];simp
def Qow : ∀{l:H_} {σ:St} {p:Nat},l.all (λq=>!(Nat.beq q.1 p))=true->look σ.hp p=none->look (σ.sets l).hp p=none:=by
 intro l
 induction l with
 | nil=>intro σ p _ h;exact h
 | cons q l ih=>
  intro σ p O h;rw[TI,QH]at O;show look ((σ.sets l).set q.1 q.2).hp p=none;rw[St.look_set_other _ _ (FZ O.1)];exact ih O.2 h
def Yr.none_look {M:Yr}{σ:St}{p:Nat}(hk:M.sets.all (λq=>!(Nat.beq q.1 p))=true)(h:look σ.hp p=none):look (M.run σ).hp p=none:=by
 have O:look ((σ.killL M.kills).sets M.sets).hp p=none:=Qow hk (QlS h);unfold Yr.run;split<;>exact O
def Ob.kill_keep {ob:Ob}{b:Nat}(h:ob.keep1 b=true):ob.kill b=ob:=by
 cases ob with
 | var O=>
  simp only[Ob.keep1,XG]at h;simp only[Ob.kill,Ob.var.injEq]
  conv=>rhs;rw[<-List.map_id O]
  apply TL;intro v hv;simp only[V.killC,h v hv,Qq,id]
 | lp l K O q=>
  simp only[Ob.keep1,XG]at h;simp only[Ob.kill,Ob.lp.injEq,true_and,and_true]
  conv=>rhs;rw[<-List.map_id O]
  apply TL;intro v hv;simp only[V.killC,h v hv,Qq,id]
 | _=>rfl
def Qnu : ∀{l:L_ Nat} {σ:St} {p:Nat} {ob:Ob},l.all (λb=>!(Nat.beq b p))=true->l.all (λb=>ob.keep1 b)=true->look σ.hp p=X ob->look (σ.killL l).hp p=X ob:=by
 intro l
 induction l with
 | nil=>intro σ p ob _ _ h;exact h
 | cons b l ih=>
  intro σ p ob O hp h;rw[TI,QH]at O hp;refine ih O.2 hp.2 ?_;show look (UN b σ.hp) p=X ob;rw[MC,if_neg (FZ O.1).symm,h,GR,Ob.kill_keep hp.1]
def Qox : ∀{l:H_} {σ:St} {p:Nat} {ob:Ob},l.all (λq=>!(Nat.beq q.1 p))=true->look σ.hp p=X ob->look (σ.sets l).hp p=X ob:=by
 intro l
 induction l with
 | nil=>intro σ p ob _ h;exact h
 | cons q l ih=>
  intro σ p ob O h;rw[TI,QH]at O;show look ((σ.sets l).set q.1 q.2).hp p=X ob;rw[St.look_set_other _ _ (FZ O.1)];exact ih O.2 h
def Yr.keepsO_look {M:Yr}{σ:St}{p:Nat}{ob:Ob}(O:M.keepsO p=true)(hp:M.kills.all (λb=>ob.keep1 b)=true)(h:look σ.hp p=X ob):look (M.run σ).hp p=X ob:=by
 unfold Yr.keepsO at O;rw[QH]at O;have h1:look ((σ.killL M.kills).sets M.sets).hp p=X ob:=Qox O.2 (Qnu O.1 hp h);unfold Yr.run;split<;>exact h1
section
variable {P:Program}{C:Xr}{Q:Exit->St->Prop}{ops:Array Oper}{σ:St}{ks:L_ Fr}
def Qrr (Inv:Array Bool->St->Prop)
  (step:∀O σ i o,O.size=ops.size->QfB ops O->i∈Region.ready .any ops O->ops[i]? = X o->Inv O σ->∃σ',Kd P C ops o σ σ'/\Inv (O.setIfInBounds i true) σ')
  (hord:QlN ops=true) (hend:∀O σ,O.size=ops.size->(∀i,i<ops.size->O[i]? = X true)->Inv O σ->∀a w,R C σ a w->up C Q .normal a w):
  ∀(fuel:Nat) (O:Array Bool) (a:Act) (w:World) (σ:St),((List.range ops.size).filter λi=>!(O[i]? == X true)).length<=fuel->O.size=ops.size->QfB ops O->Inv O σ->R C σ a w->wpAnyIn C.F 0 P .any ops (up C Q) fuel O a w:=by
 intro fuel;have allOf:∀{O:Array Bool},O.size=ops.size->Region.ready .any ops O=[]->∀i,i<ops.size->O[i]? = X true:=by
  intro O hs hr;apply Classical.byContradiction;intro h;have hex:∃i,i<ops.size/\O[i]? ≠ X true:=by
   apply Classical.byContradiction;intro h';exact h λi hi=>Classical.byContradiction λhn=>h' ⟨i,hi,hn⟩
  obtain⟨k,h1,h2,h3⟩:=Qoi ops.size hex;have:=Qpw hord hs h1 h2 h3;rw[hr]at this;cases this
 induction fuel with
 | zero=>
  intro O a w σ hf hs hd hI hR;have hall:∀i,i<ops.size->O[i]? = X true:=λi hi=>by
   have:=PP.1 (Nat.le_zero.1 hf);rw[List.filter_eq_nil_iff]at this;simpa using this i (Le.2 hi)
  refine⟨?_,hend O σ hs hall hI a w hR⟩;rw[List.eq_nil_iff_forall_not_mem];intro i hi;obtain⟨o,ho,hl,_⟩:=(PA hs).1 hi;rw[hall i (AH.1 ho).1]at hl;cases hl
 | succ fuel ih=>
  intro O a w σ hf hs hd hI hR;refine⟨λhr=>hend O σ hs (allOf hs hr) hI a w hR,λi hi=>?_⟩;obtain⟨o,ho,hl,hdeps⟩:=(PA hs).1 hi;obtain⟨σ',hos,hI'⟩:=step O σ i o hs hd hi ho hI;have hin:i<O.size:=by rw[hs];exact(AH.1 ho).1
  have next:∀a' w',R C σ' a' w'->wpAnyIn C.F 0 P .any ops (up C Q) fuel (O.setIfInBounds i true) a' w':=λa' w' hR'=>by
   refine ih _ a' w' σ' ?_ (by simpa using hs) (hd.set hs hi) hI' hR';have count:∀(l:L_ Nat),i∈l->(l.filter λj=>!((O.setIfInBounds i true)[j]? == X true)).length+1<=(l.filter λj=>!(O[j]? == X true)).length:=by
    intro l;have le:∀(l:L_ Nat),(l.filter λj=>!((O.setIfInBounds i true)[j]? == X true)).length<=(l.filter λj=>!(O[j]? == X true)).length:=by
     intro l
     induction l with
     | nil=>simp
     | cons x l ihl=>
      by_cases e:i=x
      ·subst e;rw[List.filter_cons_of_neg (by simp[Qcy,hin]),List.filter_cons_of_pos (by rw[hl];simp)];simp;omega
      simp only[Bl,Qog e];split
      ·simpa using ihl
      exact ihl
    induction l with
    | nil=>intro h;cases h
    | cons x l ihl=>
     intro hm;by_cases e:i=x
     ·subst e;rw[List.filter_cons_of_neg (by simp[Qcy,hin]),List.filter_cons_of_pos (by rw[hl];simp)];have:=le l;simp;omega
     have hm':i∈l:=by
      rcases XT.1 hm with h | h
      ·exact absurd h e
      exact h
     have:=ihl hm';simp only[Bl,Qog e];split
     ·simpa using this
     exact this
   have:=count (List.range ops.size) (Le.2 (by rw[<-hs];exact hin));omega
  unfold wpOpIn;simp only[ho];have:=hos a w hR (wpAnyIn C.F 0 P .any ops (up C Q) fuel (O.setIfInBounds i true)) (up C Q) next;split
  ·rename_i hw;rw[if_pos hw]at this;exact this
  rename_i hw;rw[if_neg hw]at this;exact⟨λ_ _=>trivial,this⟩
def AK.regionInv {id:Nat}(Inv:Array Bool->St->Prop)(hmix:P.follows .mixedOrders=true)
  (step:∀O σ i o,O.size=ops.size->QfB ops O->i∈Region.ready .any ops O->ops[i]? = X o->Inv O σ->∃σ',Kd P C ops o σ σ'/\Inv (O.setIfInBounds i true) σ')
  (hord:QlN ops=true) (h0:Inv (Array.replicate ops.size false) σ) (hend:∀O σ',O.size=ops.size->(∀i,i<ops.size->O[i]? = X true)->Inv O σ'->AK P C Q (.x .normal) ks σ'):AK P C Q (.c (.region id ops true)) ks σ:=by
 intro a w hR;refine wpIn_region_any hmix ?_;have hR':R C σ a { w with drawn:=w.drawn+1 }:=by
  obtain⟨φ,hr⟩:=hR;exact⟨φ,hr.step rfl rfl rfl (Yj _) (λ_ _=>rfl)⟩
 refine Qrr Inv step hord (λO σ' hs hall hI a w hR=>hend O σ' hs hall hI a w hR) ops.size (Array.replicate ops.size false) a _ σ ?_ (by simp) ?_ h0 hR'
 ·exact YC (QbE _ _) (by simp)
 intro i o _ h;simp[Array.getElem?_replicate]at h
end
inductive It where
 | add (x:DF) (fl nf:Bool)
 | tn (M:Yr)
def Xn : L_ It->L_ Yr
 | []=>[]
 | .add _ _ _::r=>Xn r
 | .tn M::r=>M::Xn r
def PV (base:St):L_ Yr->St
 | []=>base
 | M::r=>PV (M.run base) r
def Qn8 (x:DF)(M:Yr):Bool:=match x.ob with | none=>true | some ob=>M.keepsO x.d&&M.kills.all (λb=>ob.keep1 b)
def Qn9 (x:DF)(M:Yr):Bool:=M.keeps x.d x.v&&Qn8 x M
def alv (x:DF)(h:Bool)(ms:L_ Yr):Bool:=ms.all (λM=>M.keeps x.d x.v)
def QcI (x:DF)(h:Bool)(ms:L_ Yr):Bool:=ms.all (Qn8 x)
def PW (σ:St)(x:DF)(h:Bool)(ms:L_ Yr):Prop:=(alv x h ms=true->look σ.fr x.d=X x.v)/\(QcI x h ms=true->∀ob,x.ob=X ob->look σ.hp x.d=X ob)
def CQ (ops:Array Oper):Nat->Nat->Nat->Bool
 | 0,_,_=>false
 | n+1,i,k=>match ops[k]? with
  | some o=>Nw o i||o.after.toList.any λe=>Region.binds .any e&&CQ ops n i e.on
  | none=>false
def Qd4 (its:L_ It)(p:Nat):Bool:=match its[p]? with
 | some (.tn _)=>true
 | _=>false
def QsN (ops:Array Oper)(its:L_ It):Bool:=(List.range its.length).all λi=>(List.range its.length).all λp=>!(Qd4 its p)||Nat.beq p i ||
 (match its[i]? with | some (.add _ true false)=>true | some _=>bif Nat.ble (p+1) i then CQ ops 8 p i else CQ ops 8 i p | none=>true)
def Qan : L_ It->L_ Nat
 | []=>[]
 | .add x _ _::r=>x.d::Qan r
 | .tn _::r=>Qan r
def LW : L_ Yr->L_ Nat
 | []=>[]
 | M::r=>match M.put with
  | some (d,_)=>d::LW r
  | none=>LW r
def Qoy : L_ Yr->L_ Nat
 | []=>[]
 | M::r=>M.sets.map Prod.fst++Qoy r
def Qd5 : L_ It->L_ Nat
 | []=>[]
 | .add x _ _::r=>match x.ob with
  | some _=>x.d::Qd5 r
  | none=>Qd5 r
 | .tn _::r=>Qd5 r
def LX (ms:L_ Yr):L_ It->Bool
 | []=>true
 | .add x h _::r=>(!h||ms.all (Qn9 x))&&LX ms r
 | .tn _::r=>LX ms r
def QfJ (ms:L_ Yr)(S:St):Bool:=S.fr.all (λp=>ms.all λM=>M.keeps p.1 p.2)&&S.hp.all (λp=>ms.all λM=>M.keepsO p.1&&M.kills.all (λb=>p.2.keep1 b))
def Qoz (base:St)(its:L_ It):Bool:=Fd (Qan its)&&(Qan its).all (λd=>!(XM (keys base.fr) d)&&!(XM (LW (Xn its)) d)) &&
 (Qd5 its).all (λd=>!(XM (keys base.hp) d))
def Qqq (ops:Array Oper)(its:L_ It):Bool:=(List.range its.length).all λi=>(List.range its.length).all λp=>match its[i]? with
 | some (.add x _ _)=>match its[p]? with
  | some (.tn M)=>x.ob.isNone||!(XM (M.sets.map Prod.fst) x.d)||CQ ops 8 i p
  | _=>true
 | _=>true
section
variable {P:Program}{C:Xr}{Q:Exit->St->Prop}{ops:Array Oper}{ks:L_ Fr}{base S:St}{its:L_ It}
def j0 (its:L_ It)(k:Nat):Nat:=(Xn (its.take k)).length
def Qde (P:Program)(C:Xr)(ops:Array Oper)(base S:St)(its:L_ It)(i:Nat)(o:Oper):It->Prop
 | .add x h O=>match h&&!O with
  | false=>∀σ,EK σ (PV base ((Xn its).take (j0 its i)))->(∀k y h O,its[k]? = X (.add y h O)->Nw o k=true->PW σ y h (((Xn its).take (j0 its i)).drop (j0 its k)))->(x.ob.isSome=true->look σ.hp x.d=none)->Kd P C ops o σ (σ.addF x)
  | true=>∀σ,EK σ S->(∀k y O,its[k]? = X (.add y true O)->Nw o k=true->QdV σ y)->(x.ob.isSome=true->look σ.hp x.d=none)->Kd P C ops o σ (σ.addF x)
 | .tn M=>∀σ,EK σ (PV base ((Xn its).take (j0 its i)))->(∀k y h O,its[k]? = X (.add y h O)->Nw o k=true->PW σ y h (((Xn its).take (j0 its i)).drop (j0 its k)))->Kd P C ops o σ (M.run σ)
def Fe {O:Array Bool}(hd:QfB ops O):∀(n:Nat) {i k:Nat},CQ ops n i k=true->O[k]? = X true->O[i]? = X true:=by
 intro n
 induction n with
 | zero=>intro i k h;cases h
 | succ n ih=>
  intro i k h hk;rw[CQ]at h;split at h
  ·rename_i o ho;rw[KT]at h;rcases h with h | h
   ·simp only[Nw,Oj,QH]at h;obtain⟨e,he,hb,hon⟩:=h;have:=hd k o ho hk e (Qia.1 he) hb;rwa[Ye hon]at this
   simp only[Oj,QH]at h;obtain⟨e,he,hb,hm⟩:=h;exact ih hm (hd k o ho hk e (Qia.1 he) hb)
  cases h
def QhW {O:Array Bool}(hs:O.size=ops.size)(hd:QfB ops O){n i k:Nat}(h:CQ ops n i k=true)(hk:k∈Region.ready .any ops O):O[i]? = X true:=by
 obtain⟨o,ho,hl,hdeps⟩:=(PA hs).1 hk;cases n with
 | zero=>cases h
 | succ n=>
  rw[CQ,ho]at h;dsimp only at h;rw[KT]at h;rcases h with h | h
  ·simp only[Nw,Oj,QH]at h;obtain⟨e,he,hb,hon⟩:=h;have:=hdeps e (Qia.1 he) hb;rwa[Ye hon]at this
  simp only[Oj,QH]at h;obtain⟨e,he,hb,hm⟩:=h;exact Fe hd n hm (hdeps e (Qia.1 he) hb)
def BL : ∀{l m:L_ It},Xn (l++m)=Xn l++Xn m:=by
 intro l
 induction l with
 | nil=>intro m;rfl
 | cons x l h=>intro m;cases x<;>simp[Xn,h]
def QjZ {ms h:L_ Yr}:∀{B:St},PV B (ms++h)=PV (PV B ms) h:=by
 induction ms with
 | nil=>intro B;rfl
 | cons M ms O=>intro B;exact O
def Qqr {its:L_ It}{i:Nat}{M:Yr}(h:its[i]? = X (.tn M)):(Xn its)[j0 its i]? = X M/\(Xn its).take (j0 its i+1)=(Xn its).take (j0 its i)++[M]:=by
 have O:=(Xb.1 h).1;have e:its=its.take i++(.tn M::its.drop (i+1)):=by
  have:its.drop i=its[i]::its.drop (i+1):=Qn2 O;have h2:its[i]=.tn M:=by have:=QN O;rw[h]at this;exact(Option.some.inj this).symm
  rw[h2]at this;rw[<-this,QjP]
 have e2:Xn its=Xn (its.take i)++(M::Xn (its.drop (i+1))):=by
  conv=>lhs;rw[e]
  rw[BL];rfl
 unfold j0;rw[e2];refine⟨by simp,?_⟩;rw[List.take_append,List.take_append];simp[UV]
def Qqs {σ:St}{x:DF}{M:Yr}(hk:Qn9 x M=true)(h:QdV σ x):QdV (M.run σ) x:=by
 unfold Qn9 Qn8 at hk;rw[QH]at hk;refine⟨Yr.keeps_look hk.1 h.1,λob hob=>?_⟩;rw[hob]at hk;have O:=hk.2;dsimp only at O;rw[QH]at O;exact Yr.keepsO_look O.1 O.2 (h.2 ob hob)
def PW.of {σ:St}{x:DF}{O:Bool}{ms:L_ Yr}(h:QdV σ x):PW σ x O ms:=⟨λ_=>h.1,λ_=>h.2⟩
def PW.run {σ:St}{x:DF}{fl:Bool}{ms:L_ Yr}{M:Yr}(h:PW σ x fl ms):PW (M.run σ) x fl (ms++[M]):=by
 refine⟨λO=>?_,λO ob hob=>?_⟩
 ·simp only[alv,List.all_append,QH,TI,List.all_nil,QbC]at O;exact Yr.keeps_look O.2 (h.1 (by simp only[alv];exact O.1))
 simp only[QcI,List.all_append,QH,TI,List.all_nil,QbC]at O;have h1:=h.2 (by simp only[QcI];exact O.1) ob hob;have hk:=O.2;unfold Qn8 at hk;rw[hob]at hk;dsimp only at hk;rw[QH]at hk;exact Yr.keepsO_look hk.1 hk.2 h1
def Qrs {p:Nat}{M:Yr}(h:its[p]? = X (.tn M)):j0 its (p+1)=j0 its p+1:=by
 have O:=(Xb.1 h).1;unfold j0;rw[UU,h,BL];simp[Xn]
def Qj0 : ∀{a b:Nat},a<=b->j0 its a<=j0 its b:=by
 intro a b h;unfold j0;obtain⟨c,rfl⟩:=Nat.exists_eq_add_of_le h;rw[List.take_add,BL];simp
def Qqt {p i:Nat}{M:Yr}(h:its[p]? = X (.tn M))(O:p<i):j0 its p<j0 its i:=by
 have:=Qrs h;have:=Qj0 (its:=its) (show p+1<=i from O);omega
def QgT : ∀{its:L_ It} {c:Nat},c<(Xn its).length->∃p M,its[p]? = X (.tn M)/\j0 its p=c:=by
 intro its
 induction its with
 | nil=>intro c h;simp[Xn]at h
 | cons it its ih=>
  intro c h;cases it with
  | add x fl=>
   obtain⟨p,M,O,h2⟩:=ih (c:=c) h;exact⟨p+1,M,by simpa using O,by simpa[j0,Xn] using h2⟩
  | tn M=>
   cases c with
   | zero=>exact⟨0,M,rfl,by simp[j0,Xn]⟩
   | succ c=>
    obtain⟨p,M',O,h2⟩:=ih (c:=c) (by simpa[Xn] using h);exact⟨p+1,M',by simpa using O,by simpa[j0,Xn] using h2⟩
def QoA {p:Nat}{M:Yr}(h:its[p]? = X (.tn M)):j0 its p<(Xn its).length:=(Xb.1 (Qqr h).1).1
def EK.stable : ∀{ms:L_ Yr} {B S:St},QfJ ms S=true->EK B S->∀n,EK (PV B (ms.take n)) S:=by
 intro ms
 induction ms with
 | nil=>intro B S _ h n;simpa[PV] using h
 | cons M ms ih=>
  intro B S O h n;cases n with
  | zero=>exact h
  | succ n=>
   unfold QfJ at O;rw[QH,XG,XG]at O;refine ih (B:=M.run B) ?_ ⟨λt v hv=>?_,λp ob hob=>?_⟩ n
   ·unfold QfJ;rw[QH,XG,XG];exact⟨λp hp=>by have:=O.1 p hp;rw[TI,QH]at this;exact this.2,λp hp=>by have:=O.2 p hp;rw[TI,QH]at this;exact this.2⟩
   ·have:=O.1 (t,v) (JD hv);rw[TI,QH]at this;exact Yr.keeps_look this.1 (h.1 t v hv)
   have:=O.2 (p,ob) (JD hob);rw[TI,QH,QH]at this;exact Yr.keepsO_look this.1.1 this.1.2 (h.2 p ob hob)
def Qd6 : ∀{its:L_ It} {i:Nat} {x:DF} {fl nf:Bool},its[i]? = X (.add x fl nf)->x.d∈Qan its/\(x.ob.isSome=true->x.d∈Qd5 its):=by
 intro its
 induction its with
 | nil=>intro i x fl nf h;simp at h
 | cons it its ih=>
  intro i x fl nf h;cases i with
  | zero=>
   simp at h;subst h;refine⟨YY,λO=>?_⟩;rw[Qd5];split
   ·exact YY
   rename_i he;rw[he]at O;cases O
  | succ i=>
   obtain⟨a,b⟩:=ih (i:=i) (by simpa using h);cases it with
   | add y fl' nf'=>
    refine⟨Kb _ a,λO=>?_⟩;rw[Qd5];split
    ·exact Kb _ (b O)
    exact b O
   | tn M=>exact⟨a,b⟩
def Qif : ∀{its:L_ It},(Qan its).Nodup->∀{i k:Nat} {x y:DF} {fl O nf nf':Bool},its[i]? = X (.add x fl nf)->its[k]? = X (.add y O nf')->x.d=y.d->i=k:=by
 intro its
 induction its with
 | nil=>intro _ i k x y fl O nf nf' h;simp at h
 | cons it its ih=>
  intro hn i k x y fl O nf nf' hi hk e;cases it with
  | tn M=>
   cases i with
   | zero=>simp at hi
   | succ i=>cases k with
    | zero=>simp at hk
    | succ k=>rw[ih hn (i:=i) (k:=k) (by simpa using hi) (by simpa using hk) e]
  | add z f g=>
   rw[Qan,Lg]at hn;cases i with
   | zero=>
    cases k with
    | zero=>rfl
    | succ k=>
     simp at hi;obtain⟨rfl,rfl,rfl⟩:=hi;exact absurd (by rw[e];exact(Qd6 (i:=k) (by simpa using hk)).1) hn.1
   | succ i=>
    cases k with
    | zero=>
     simp at hk;obtain⟨rfl,rfl,rfl⟩:=hk;exact absurd (by rw[<-e];exact(Qd6 (i:=i) (by simpa using hi)).1) hn.1
    | succ k=>rw[ih hn.2 (i:=i) (k:=k) (by simpa using hi) (by simpa using hk) e]
def QsO {M:Yr}{B:St}{t:Nat}{v:V}(h:look (M.run B).fr t=X v):(∃u,look B.fr t=X u)\/∃u,M.put=X (t,u):=by
 have kill:∀{l:L_ Nat} {B:St} {v:V},look (B.killL l).fr t=X v->∃u,look B.fr t=X u:=by
  intro l
  induction l with
  | nil=>intro B v h;exact⟨v,h⟩
  | cons b l ih=>
   intro B v h;obtain⟨u,O⟩:=ih h;have O:look (HU b B.fr) t=X u:=O;rw[SM]at O;obtain⟨w,hw,_⟩:=Yc.1 O;exact⟨w,hw⟩
 unfold Yr.run at h;split at h
 ·rw[QlR]at h;exact .inl (kill h)
 rename_i d u hp;by_cases e:d=t
 ·subst e;exact .inr ⟨u,hp⟩
 have h:look ((d,u)::((B.killL M.kills).sets M.sets).fr) t=X v:=h;rw[Qx _ _ e,QlR]at h;exact .inl (kill h)
def Qrt {M:Yr}{B:St}{p:Nat}{ob:Ob}(h:look (M.run B).hp p=X ob):(∃u,look B.hp p=X u)\/p∈M.sets.map Prod.fst:=by
 have kill:∀{l:L_ Nat} {B:St} {ob:Ob},look (B.killL l).hp p=X ob->∃u,look B.hp p=X u:=by
  intro l
  induction l with
  | nil=>intro B ob h;exact⟨ob,h⟩
  | cons b l ih=>
   intro B ob h;obtain⟨u,O⟩:=ih h;have O:look (UN b B.hp) p=X u:=O;rw[MC]at O;split at O
   ·cases O
   obtain⟨w,hw,_⟩:=Yc.1 O;exact⟨w,hw⟩
 have sets:∀{l:H_} {B:St} {ob:Ob},look (B.sets l).hp p=X ob->(∃u,look B.hp p=X u)\/p∈l.map Prod.fst:=by
  intro l
  induction l with
  | nil=>intro B ob h;exact .inl ⟨ob,h⟩
  | cons q l ih=>
   intro B ob h;by_cases e:q.1=p
   ·exact .inr (by rw[Gp,e];exact YY)
   have h:look ((B.sets l).set q.1 q.2).hp p=X ob:=h;rw[St.look_set_other _ _ e]at h;exact(ih h).imp id (Kb _)
 have h1:look ((B.killL M.kills).sets M.sets).hp p=X ob:=by
  unfold Yr.run at h;split at h<;>exact h
 rcases sets h1 with⟨u,O⟩|h2
 ·exact .inl (kill O)
 exact .inr h2
def QsP : ∀{ms:L_ Yr} {B:St} {t:Nat} {v:V},look (PV B ms).fr t=X v->(∃u,look B.fr t=X u)\/t∈LW ms:=by
 intro ms
 induction ms with
 | nil=>intro B t v h;exact .inl ⟨v,h⟩
 | cons M ms ih=>
  intro B t v h;rcases ih h with⟨u,O⟩|h
  ·rcases QsO O with h | ⟨u,hp⟩
   ·exact .inl h
   refine .inr ?_;rw[LW,hp];exact YY
  refine .inr ?_;rw[LW];split
  ·exact Kb _ h
  exact h
def Qru : ∀{ms:L_ Yr} {B:St} {p:Nat} {ob:Ob},look (PV B ms).hp p=X ob->(∃u,look B.hp p=X u)\/p∈Qoy ms:=by
 intro ms
 induction ms with
 | nil=>intro B p ob h;exact .inl ⟨ob,h⟩
 | cons M ms ih=>
  intro B p ob h;rcases ih h with⟨u,O⟩|h
  ·rcases Qrt O with h | h
   ·exact .inl h
   exact .inr (TN _ h)
  exact .inr (QjN _ h)
def QpA : ∀{ms:L_ Yr} {n t:Nat},t∈LW (ms.take n)->t∈LW ms:=by
 intro ms
 induction ms with
 | nil=>intro n t h;simpa using h
 | cons M ms O=>
  intro n t h;cases n with
  | zero=>simp[LW]at h
  | succ n=>
   rw[List.take_succ_cons,LW]at h;rw[LW];split at h
   ·rcases XT.1 h with rfl | h
    ·exact YY
    exact Kb _ (O h)
   exact O h
def Qwo (base:St)(its:L_ It)(h:Array Bool)(σ:St):Prop:=∃j,j<=(Xn its).length/\(∀p M,its[p]? = X (.tn M)->(h[p]? = X true↔j0 its p<j))/\EK σ (PV base ((Xn its).take j))/\
 ∀i x O nf,its[i]? = X (.add x O nf)->(h[i]? = X true->PW σ x O (((Xn its).take j).drop (j0 its i)))/\(h[i]? ≠ X true->x.ob.isSome=true->look σ.hp x.d=none)/\(O=true->h[i]? = X true->LX (Xn its) its=true\/j<(Xn its).length->QdV σ x)
def QuK (ops:Array Oper)(its:L_ It):Bool:=Qd4 its (its.length-1)&&(List.range (its.length-1)).all λi=>CQ ops 8 i (its.length-1)
def QlT (ops:Array Oper)(ms:L_ Yr)(its:L_ It):Bool:=LX ms its||(LX (ms.take (ms.length-1)) its&&QuK ops its)
def QsQ (its:L_ It)(i:Nat):Bool:=match its[i]? with
 | some (.add _ true false)=>true
 | _=>false
def QuL (ops:Array Oper)(its:L_ It)(p:Nat):Bool:=Qd4 its p&&Nat.beq (j0 its p+1) (Xn its).length&&(List.range its.length).all λi=>!QsQ its i||CQ ops 8 i p
def QlU (ops:Array Oper)(its:L_ It)(ms:L_ Yr)(S:St):Bool:=QfJ ms S||(QfJ (ms.take (ms.length-1)) S&&(List.range its.length).any (QuL ops its))
def AK.drawV {id:Nat}(hmix:P.follows .mixedOrders=true)(hlen:its.length=ops.size)(hord:QlN ops=true)(hov:QsN ops its=true)(hap:Qoz base its=true)(hsv:Qqq ops its=true)(hfk:QlT ops (Xn its) its=true)(hsk:QlU ops its (Xn its) S=true)(hS:EK base S)
  (steps:∀i o it,ops[i]? = X o->its[i]? = X it->Qde P C ops base S its i o it)
  (k:∀σ,EK σ (PV base (Xn its))->(∀i x fl nf,its[i]? = X (.add x fl nf)->PW σ x fl ((Xn its).drop (j0 its i)))->AK P C Q (.x .normal) ks σ):AK P C Q (.c (.region id ops true)) ks base:=by
 simp only[Qoz,QH,XG,Di]at hap;obtain⟨⟨hnd,hd1⟩,hd2⟩:=hap;have hnd:=Gt.1 hnd;have ord:∀i p it M,its[i]? = X it->its[p]? = X (.tn M)->p≠i->(∀x,it≠.add x true false)->(p<i->CQ ops 8 p i=true)/\(i<p->CQ ops 8 i p=true):=by
  intro i p it M hi hp hne hnf;have hil:=(Xb.1 hi).1;have hpl:=(Xb.1 hp).1;unfold QsN at hov;rw[XG]at hov;have h1:=hov i (Le.2 hil);rw[XG]at h1;have h2:=h1 p (Le.2 hpl);have hm:Qd4 its p=true:=by unfold Qd4;rw[hp]
  have hb:Nat.beq p i=false:=by cases hb:Nat.beq p i with
   | true=>exact absurd (Ye hb) hne
   | false=>rfl
  rw[hm,hb,hi]at h2;simp only[Jo,Bool.false_or]at h2;have h3:(bif Nat.ble (p+1) i then CQ ops 8 p i else CQ ops 8 i p)=true:=by
   cases it with
   | add x fl nf=>cases fl with
    | true=>cases nf with
     | false=>exact absurd rfl (hnf x)
     | true=>exact h2
    | false=>exact h2
   | tn M=>exact h2
  refine⟨λh=>?_,λh=>?_⟩
  ·rw[show Nat.ble (p+1) i=true from PR h]at h3;exact h3
  have:Nat.ble (p+1) i=false:=by cases hc:Nat.ble (p+1) i with
   | true=>have:=Jh hc;omega
   | false=>rfl
  rw[this]at h3;exact h3
 have sets:∀(i p:Nat) (x:DF) (fl nf:Bool) (M:Yr),its[i]? = X (.add x fl nf)->its[p]? = X (.tn M)->x.ob.isSome=true->x.d∈M.sets.map Prod.fst->CQ ops 8 i p=true:=by
  intro i p x fl nf M hi hp hob hmem;have hil:=(Xb.1 hi).1;have hpl:=(Xb.1 hp).1;unfold Qqq at hsv;rw[XG]at hsv;have h1:=hsv i (Le.2 hil);rw[XG]at h1;have h2:=h1 p (Le.2 hpl);rw[hi,hp]at h2;dsimp only at h2;rw[LT.2 hmem]at h2;have:x.ob.isNone=false:=by cases hx:x.ob with
   | none=>rw[hx]at hob;cases hob
   | some=>rfl
  rw[this]at h2;simpa using h2
 have memSets:∀{ms:L_ Yr} {d:Nat},d∈Qoy ms->∃(c:Nat) (M:Yr),ms[c]? = X M/\d∈M.sets.map Prod.fst:=by
  intro ms
  induction ms with
  | nil=>intro d h;cases h
  | cons N ms ih=>
   intro d h;rcases Wr.1 h with h | h
   ·exact⟨0,N,rfl,h⟩
   obtain⟨c,M,h1,h2⟩:=ih h;exact⟨c+1,M,by simpa using h1,h2⟩
 have all:∀{l:L_ It} {ms:L_ Yr},LX ms l=true->∀{q:Nat} {y:DF} {nf:Bool},l[q]? = X (.add y true nf)->ms.all (Qn9 y)=true:=by
  intro l
  induction l with
  | nil=>intro ms _ q y nf h;simp at h
  | cons it l ih=>
   intro ms h q y nf hq;cases it with
   | add z f g=>
    rw[LX,QH]at h;cases q with
    | zero=>simp at hq;obtain⟨rfl,rfl,rfl⟩:=hq;simpa using h.1
    | succ q=>exact ih h.2 (by simpa using hq)
   | tn M=>
    cases q with
    | zero=>simp at hq
    | succ q=>exact ih h (by simpa using hq)
 have lst:LX (Xn its) its=true\/(LX ((Xn its).take ((Xn its).length-1)) its=true/\(∃M,its[its.length-1]? = X (.tn M)/\j0 its (its.length-1)+1=(Xn its).length)/\∀i,i<its.length-1->CQ ops 8 i (its.length-1)=true):=by
  unfold QlT at hfk;rw[KT,QH]at hfk;refine hfk.imp_right λh=>⟨h.1,?_⟩;have h2:=h.2;unfold QuK at h2;rw[QH,XG]at h2;obtain⟨p1,p2⟩:=h2;refine⟨?_,λi hi=>p2 i (Le.2 hi)⟩;unfold Qd4 at p1;split at p1
  ·rename_i M hM;refine⟨M,hM,?_⟩;have h3:=Qrs hM;have hl:=(Xb.1 hM).1;have h4:j0 its its.length=(Xn its).length:=by unfold j0;rw[BY]
   rw[show its.length-1+1=its.length by omega]at h3;omega
  cases p1
 refine AK.regionInv (Qwo base its) hmix ?_ hord ?_ ?_
 ·intro O σ i o hs hd hi ho ⟨j,hj,hmu,hsub,hadd⟩;obtain⟨o',ho',hl,hdeps⟩:=(PA hs).1 hi;rw[ho]at ho';cases ho';have hio:i<ops.size:=(AH.1 ho).1;have hil:i<its.length:=by omega
  have hin:i<O.size:=by omega
  obtain⟨it,hit⟩:∃it,its[i]? = X it:=⟨_,QN hil⟩;have hnl:O[i]? ≠ X true:=by rw[hl];simp
  have hst:=steps i o it ho hit;have depsL:∀{q:Nat},Nw o q=true->O[q]? = X true:=λhdep=>by
   simp only[Nw,Oj,QH]at hdep;obtain⟨e,he,hb,hon⟩:=hdep;have:=hdeps e (Qia.1 he) hb;rwa[Ye hon]at this
  have stage:(∀x,it≠.add x true false)->j=j0 its i:=by
   intro hnf;apply Nat.le_antisymm
   ·rcases WY (j0 its i) j with hlt | h
    ·obtain⟨p,M,hp,hpj⟩:=QgT (its:=its) (c:=j0 its i) (by omega);have hpl:O[p]? = X true:=(hmu p M hp).2 (by omega);rcases Nat.lt_trichotomy p i with h | h | h
     ·have:=Qqt hp h;omega
     ·subst h;exact absurd hpl hnl
     have hm:=(ord i p it M hit hp (by omega) hnf).2 h;exact absurd (Fe hd 8 hm hpl) hnl
    exact h
   rcases Nat.eq_zero_or_pos (j0 its i)with h | h
   ·omega
   have hle:j0 its i<=(Xn its).length:=by
    have h1:=Qj0 (its:=its) (show i<=its.length by omega);have h2:j0 its its.length=(Xn its).length:=by unfold j0;rw[BY]
    omega
   obtain⟨p,M,hp,hpj⟩:=QgT (its:=its) (c:=j0 its i-1) (by omega);have hpi:p<i:=by
    rcases Nat.lt_trichotomy p i with h' | h' | h'
    ·exact h'
    ·subst h';omega
    have:=Qj0 (its:=its) (Nat.le_of_lt h');omega
   have hm:=(ord i p it M hit hp (by omega) hnf).1 hpi;have:=(hmu p M hp).1 (QhW hs hd hm hi);omega
  have setL:∀q,(O.setIfInBounds i true)[q]? = X true↔q=i\/O[q]? = X true:=λq=>by
   by_cases e:i=q
   ·subst e;simp[Qcy,hin]
   rw[Qog e];simp[Ne.symm e]
  cases it with
  | tn M=>
   have hjj:=stage λx e=>by cases e
   subst hjj;have hM:=Qqr hit;have hos:Kd P C ops o σ (M.run σ):=hst σ hsub λq y fl nf hq hdep=>(hadd q y fl nf hq).1 (depsL hdep);have flt:∀{q:Nat} {y:DF} {fl nf:Bool},fl=true->O[q]? = X true->its[q]? = X (.add y fl nf)->LX (Xn its) its=true\/j0 its i+1<(Xn its).length->QdV (M.run σ) y:=by
    intro q y fl nf hfl hql hq hz;subst hfl;have h1:=(hadd q y true nf hq).2.2 rfl hql (hz.imp_right λh=>by omega);refine Qqs ?_ h1;rcases lst with h | ⟨h,_,_⟩
    ·exact XG.1 (all h hq) M (Xx hM.1)
    rcases hz with hz | hz
    ·exact XG.1 (all hz hq) M (Xx hM.1)
    refine XG.1 (all h hq) M (Xx (i:=j0 its i) ?_);rw[List.getElem?_take_of_lt (by omega)];exact hM.1
   refine⟨_,hos,j0 its i+1,by have:=QoA hit;omega,λp M' hp=>?_,?_,λq y fl nf hq=>⟨λhql=>?_,λhql hob=>?_,λhfl hql hz=>?_⟩⟩
   ·rw[setL];constructor
    ·rintro (rfl | h)
     ·omega
     have:=(hmu p M' hp).1 h;omega
    intro h;rcases WY (j0 its p) (j0 its i)with h1 | h1
    ·exact .inr ((hmu p M' hp).2 h1)
    left;rcases Nat.lt_trichotomy p i with h' | h' | h'
    ·have:=Qqt hp h';omega
    ·exact h'
    have:=Qqt hit h';omega
   ·rw[hM.2,QjZ];exact hsub.run M
   ·rcases(setL q).1 hql with rfl | hql
    ·rw[hit]at hq;cases hq
    rcases WY (j0 its i) (j0 its q)with hlt | hle
    ·cases fl with
     | true=>
      refine PW.of (flt rfl hql hq ?_);rcases lst with h | ⟨_,⟨M',hp,hpj⟩,_⟩
      ·exact .inl h
      right;have hqi:q<=its.length-1:=by have:=(Xb.1 hq).1;omega
      have:=Qj0 (its:=its) hqi;omega
     | false=>
      exfalso;have hiq:i<q:=by
       rcases WY i q with h | h
       ·exact h
       have:=Qj0 (its:=its) h;omega
      have hm:=(ord q i _ M hq hit (by omega) (λx e=>by cases e)).1 hiq;exact absurd (Fe hd 8 hm hql) hnl
    rw[hM.2,List.drop_append_of_le_length (by simp;have:=QoA hit;omega)];exact((hadd q y fl nf hq).1 hql).run
   ·have hqi:q≠i:=λe=>by subst e;rw[hit]at hq;cases hq
    have hql':O[q]? ≠ X true:=λh=>hql ((setL q).2 (.inr h));refine Yr.none_look ?_ ((hadd q y fl nf hq).2.1 hql' hob);rw[XG];intro r hr;cases hb:Nat.beq r.1 y.d with
    | false=>rfl
    | true=>
     have hm:=sets q i y fl nf M hq hit hob (by rw[<-Ye hb];exact List.mem_map_of_mem hr);exact absurd (QhW hs hd hm hi) hql'
   refine flt hfl ((setL q).1 hql |>.resolve_left λe=>by subst e;rw[hit]at hq;cases hq) hq hz
  | add x fl nf=>
   have hfresh:x.ob.isSome=true->look σ.hp x.d=none:=(hadd i x fl nf hit).2.1 hnl;have hos:Kd P C ops o σ (σ.addF x):=by
    have hB:¬(fl=true/\nf=false)->(∀σ,EK σ (PV base ((Xn its).take (j0 its i)))->(∀k y fl nf,its[k]? = X (.add y fl nf)->Nw o k=true->PW σ y fl (((Xn its).take (j0 its i)).drop (j0 its k)))->(x.ob.isSome=true->look σ.hp x.d=none)->Kd P C ops o σ (σ.addF x))->Kd P C ops o σ (σ.addF x):=λhne hst=>by
     have hjj:=stage λy e=>by cases e;exact hne ⟨rfl,rfl⟩
     subst hjj;exact hst σ hsub (λq y fl nf hq hdep=>(hadd q y fl nf hq).1 (depsL hdep)) hfresh
    cases fl with
    | true=>cases nf with
     | false=>
      have h1:EK base S:=hS;have hZ:LX (Xn its) its=true\/j<(Xn its).length:=by
       refine lst.imp_right λ⟨_,⟨M,hp,hpj⟩,hall⟩=>?_;rcases WY j (Xn its).length with h | h
       ·exact h
       exfalso;have hpl:=(hmu _ M hp).2 (by omega);have hne:i≠its.length-1:=λe=>by rw[<-e,hit]at hp;cases hp
       exact absurd (Fe hd 8 (hall i (by omega)) hpl) hnl
      have h2:EK (PV base ((Xn its).take j)) S:=by
       unfold QlU at hsk;rw[KT]at hsk;rcases hsk with hsk | hsk
       ·exact EK.stable hsk h1 j
       rw[QH,Oj]at hsk;obtain⟨hs1,p,_,hp⟩:=hsk;unfold QuL at hp;simp only[QH]at hp;obtain⟨⟨p1,p2⟩,p3⟩:=hp;have hjm:j<=(Xn its).length-1:=by
        rcases WY ((Xn its).length-1) j with hlt | h
        ·exfalso;obtain⟨M,hM⟩:∃M,its[p]? = X (.tn M):=by
          unfold Qd4 at p1;split at p1
          ·exact⟨_,‹_›⟩
          cases p1
         have p2:=Ye p2;have hpl:=(hmu p M hM).2 (by omega);have h3:=XG.1 p3 i (Le.2 hil);have hf:QsQ its i=true:=by unfold QsQ;rw[hit]
         rw[hf]at h3;exact absurd (Fe hd 8 h3 hpl) hnl
        exact h
       have h4:=EK.stable hs1 h1 j;rwa[List.take_take,ZY hjm]at h4
      exact hst σ ⟨λt v h=>hsub.1 t v (h2.1 t v h),λp ob h=>hsub.2 p ob (h2.2 p ob h)⟩ (λq y nf hq hdep=>(hadd q y true nf hq).2.2 rfl (depsL hdep) hZ) hfresh
     | true=>exact hB (λe=>by cases e.2) hst
    | false=>exact hB (λe=>by cases e.1) hst
   obtain⟨hmd,hmo⟩:=Qd6 hit;have frK:∀t v,t≠x.d->look σ.fr t=X v->look (σ.addF x).fr t=X v:=by
    intro t v hne h;unfold St.addF;split
    ·show look ((x.d,x.v)::σ.fr) t=X v;rw[Qx _ _ (Ne.symm hne)];exact h
    show look ((x.d,x.v)::σ.fr) t=X v;rw[Qx _ _ (Ne.symm hne)];exact h
   have hpK:∀p,(p≠x.d\/x.ob=none)->look (σ.addF x).hp p=look σ.hp p:=by
    intro p hne;unfold St.addF;split
    ·rfl
    rename_i ob hob;rcases hne with hne | hne
    ·exact σ.look_set_other _ (Ne.symm hne)
    rw[hob]at hne;cases hne
   refine⟨_,hos,j,hj,λp M hp=>?_,⟨λt v h=>?_,λp ob h=>?_⟩,λq y fl' nf' hq=>⟨λhql=>?_,λhql hob=>?_,λhfl hql hz=>?_⟩⟩
   ·rw[setL,<-hmu p M hp];have:p≠i:=λe=>by subst e;rw[hit]at hp;cases hp
    simp[this]
   ·refine frK t v (λe=>?_) (hsub.1 t v h);subst e;have h1:=hd1 _ hmd;rcases QsP h with⟨u,hu⟩|h2
    ·rw[Qai hu]at h1;cases h1.1
    rw[LT.2 (QpA h2)]at h1;cases h1.2
   ·have hne:p≠x.d\/x.ob=none:=by
     cases hob:x.ob with
     | none=>exact .inr rfl
     | some ob'=>
      refine .inl λe=>?_;subst e;have hob':x.ob.isSome=true:=by rw[hob];rfl
      have h1:=hd2 _ (hmo hob');rcases Qru h with⟨u,hu⟩|h2
      ·rw[Qai hu]at h1;cases h1
      obtain⟨c,M,h3,h4⟩:=memSets h2;have hc:c<j:=by
       have:=(Xb.1 h3).1;simp at this;omega
      have h3':(Xn its)[c]? = X M:=by rw[List.getElem?_take_of_lt hc]at h3;exact h3
      obtain⟨p',M',hp',hpc⟩:=QgT (its:=its) (c:=c) (Xb.1 h3').1;have h5:=(Qqr hp').1;rw[hpc,h3']at h5;cases h5;have hm:=sets i p' x fl nf M hit hp' hob' h4;exact absurd (Fe hd 8 hm ((hmu p' M hp').2 (by omega))) hnl
    rw[hpK p hne];exact hsub.2 p ob h
   ·by_cases e:q=i
    ·subst e;rw[hit]at hq;cases hq;refine PW.of ⟨?_,λob hob=>?_⟩
     ·unfold St.addF;split<;>exact QB _ _ _
     unfold St.addF;rw[hob];exact QB _ _ _
    have hql':O[q]? = X true:=((setL q).1 hql).resolve_left e;obtain⟨h1,h2⟩:=(hadd q y fl' nf' hq).1 hql';have hne:y.d≠x.d:=λh=>e (Qif hnd hq hit h);exact⟨λhal=>frK _ _ hne (h1 hal),λhal ob hob=>by rw[hpK _ (.inl hne)];exact h2 hal ob hob⟩
   ·have e:q≠i:=λe=>hql ((setL q).2 (.inl e));have hql':O[q]? ≠ X true:=λh=>hql ((setL q).2 (.inr h));have hne:y.d≠x.d:=λh=>e (Qif hnd hq hit h);rw[hpK _ (.inl hne)];exact(hadd q y fl' nf' hq).2.1 hql' hob
   by_cases e:q=i
   ·subst e;rw[hit]at hq;cases hq;refine⟨?_,λob hob=>?_⟩
    ·unfold St.addF;split<;>exact QB _ _ _
    unfold St.addF;rw[hob];exact QB _ _ _
   have hql':O[q]? = X true:=((setL q).1 hql).resolve_left e;obtain⟨h1,h2⟩:=(hadd q y fl' nf' hq).2.2 hfl hql' hz;have hne:y.d≠x.d:=λh=>e (Qif hnd hq hit h);exact⟨frK _ _ hne h1,λob hob=>by rw[hpK _ (.inl hne)];exact h2 ob hob⟩
 ·refine⟨0,LQ _,λp M _=>by simp[Array.getElem?_replicate],⟨λ_ _ h=>h,λ_ _ h=>h⟩,λi x fl nf hi=>⟨λh=>by simp[Array.getElem?_replicate]at h,λ_ hob=>?_,λ_ h=>by simp[Array.getElem?_replicate]at h⟩⟩;have h1:=hd2 _ ((Qd6 hi).2 hob);cases h:look base.hp x.d with
  | none=>rfl
  | some ob=>rw[Qai h]at h1;cases h1
 intro O σ hs hall ⟨j,hj,hmu,hsub,hadd⟩;have hjt:j=(Xn its).length:=by
  rcases WY j (Xn its).length with h | h
  ·obtain⟨p,M,hp,hpj⟩:=QgT (its:=its) h;have:=(hmu p M hp).1 (hall p (by have:=(Xb.1 hp).1;omega));omega
  omega
 subst hjt;rw[BY]at hsub;refine k σ hsub λi x fl nf hi=>?_;have:=(hadd i x fl nf hi).1 (hall i (by have:=(Xb.1 hi).1;omega));rwa[BY]at this
end
inductive MD where
 | s
 | st (r:List V) (rs:List (List V))
 | app (rs:List (List V)) (m:Nat)
 | any (M:Yr)
 | cm (en:Ent) (M N:List (Nat×Nat)) (dead:List Nat) (ms:List Mode) (outs:List (Nat×Ob)) (r:V) (same:List Nat)
inductive Dw where
 | a (h:WK) (sv:Option (List (Option Nat)×V)) (fl:Bool) (nf:Bool:=false)
 | m (md:MD)
def QsR (P:Program)(T:Uh)(f:Operand->O_ V)(hp:Nat->O_ Ob)(c:Call):Ent->O_ (Nat×L_ V×Prop)
 | .fn=>match c.callee with
  | .value (.func g)=>bif XM T.en g then match evs f c.args.toList with
   | some vs=>X (g,vs,True)
   | none=>none
   else none
  | _=>none
 | .clo=>match c.callee with
  | .value x=>match f x with
   | some (.clo (.func g) fs h)=>bif XM T.en g then match evs f c.args.toList with
    | some vs=>X (g,fs++(vs++h),True)
    | none=>none
    else none
   | _=>none
  | _=>none
 | .me g=>match c.callee with
  | .invoke x name=>match f x with
   | some (.ifc t u)=>bif XM T.en g then match evs f c.args.toList with
    | some vs=>X (g,u::vs,(Bo P t name=X (g,true)/\Qic P t=true)\/(Bo P t name=X (g,false)/\Qaj P t=true))
    | none=>none
    else none
   | _=>none
  | _=>none
 | .mv g e=>match c.callee with
  | .invoke x name=>match f x with
   | some (.ifc t (.loc b 0 off))=>match hp b with
    | some (.var h)=>match h[off]? with
     | some r=>bif XM T.en g then match evs f c.args.toList with
      | some vs=>X (g,r::vs,Bo P t name=X (g,false)/\QbL P t e=true/\UD P e=X false)
      | none=>none
      else none
     | none=>none
    | _=>none
   | _=>none
  | _=>none
def Qqu {P:Program}{C:Xr}{T:Uh}{f:Operand->O_ V}{hp:Nat->O_ Ob}{o:Oper}{c:Call}{en:Ent}{g:Nat}{vs:L_ V}{ψ:Prop}{σ:St}(ok:Gc P T)(ho:o.op=.call c)(e:QsR P T f hp c en=X (g,vs,ψ))(hφ:ψ)
  (h1:∀x u,f x=X u->σ.opd x=X u) (h2:∀b u,hp b=X u->look σ.hp b=X u):Ju P C o σ g vs:=by
 obtain⟨ce,ags,ts⟩:=c;unfold QsR at e;split at e
 ·split at e
  ·rename_i f' h;dsimp only at h;subst h;replace e:=Ya e;obtain⟨O,e⟩:=e;split at e
   ·rename_i vs' hv;cases e;exact Ju.fn ho (ok.en O) (AM h1 hv)
   cases e
  cases e
 ·split at e
  ·rename_i x h;dsimp only at h;subst h;split at e
   ·rename_i f' fs cs hx;replace e:=Ya e;obtain⟨O,e⟩:=e;split at e
    ·rename_i vs' hv;cases e;exact Ju.clo ho (h1 _ _ hx) (ok.en O) (AM h1 hv)
    cases e
   cases e
  cases e
 ·split at e
  ·rename_i x name h;dsimp only at h;subst h;split at e
   ·rename_i t u hx;replace e:=Ya e;obtain⟨O,e⟩:=e;split at e
    ·rename_i vs' hv;cases e;exact Ju.meth (r:=u) ho (h1 _ _ hx) hφ (ok.en O) (AM h1 hv)
    cases e
   cases e
  cases e
 split at e
 ·rename_i x name h;dsimp only at h;subst h;split at e
  ·rename_i t b off hx;split at e
   ·rename_i cs hb;split at e
    ·rename_i r hr0;replace e:=Ya e;obtain⟨O,e⟩:=e;split at e
     ·rename_i vs' hv;cases e;exact Ju.methV ho (h1 _ _ hx) hφ.1 hφ.2.1 hφ.2.2 (h2 _ _ hb) hr0 (ok.en O) (AM h1 hv)
     cases e
    cases e
   cases e
  cases e
 cases e
def Qrv {bk:Nat->O_ Nat}{hp hp':Nat->O_ Ob}(h:∀b u,hp b=X u->hp' b=X u):∀{M:L_ (Nat×Nat)} {l:H_},IJ bk hp M=X l->IJ bk hp' M=X l:=by
 intro M
 induction M with
 | nil=>intro l e;exact e
 | cons p M ih=>
  obtain⟨d,s⟩:=p;intro l e;rw[IJ]at e ⊢;split at e
  ·rename_i ob hob;split at e
   ·rename_i ob' O;split at e
    ·rename_i l' hl;simp only[h _ _ hob,O,ih hl];exact e
    cases e
   cases e
  cases e
def Qqv {σ:St}{M N:L_ (Nat×Nat)}{dead:L_ Nat}{outs:H_}(h:GS ⟨[],N.map λp=>(p.1,Ob.itr0)⟩ M N dead outs=true):GS σ M N dead outs=true:=by
 simp only[GS,QH,XG]at h ⊢;obtain⟨⟨h1,h2⟩,O⟩:=h;refine⟨⟨h1,h2⟩,λp hp=>⟨⟨?_,(O p hp).1.2⟩,(O p hp).2⟩⟩;have hn:∀{l:L_ (Nat×Nat)},p∈l->(look (l.map λp=>(p.1,Ob.itr0)) p.1).isNone=false:=by
  intro l hp
  induction l with
  | nil=>cases hp
  | cons q l ih=>
   show(look ((q.1,Ob.itr0)::l.map λp=>(p.1,Ob.itr0)) p.1).isNone=false;by_cases e:q.1=p.1
   ·rw[e,QB];rfl
   rw[Qx _ _ e];refine ih ?_;rcases XT.1 hp with h | h
   ·exact absurd (congrArg Prod.fst h).symm e
   exact h
 have h4:=(O p hp).1.1;rw[hn hp,QbD]at h4;rw[h4];rfl
def Qd7 {σ:St}(dead:L_ Nat):∀(l:H_),(σ.killL dead).sets l=σ.after dead l:=by
 intro l
 induction l with
 | nil=>rfl
 | cons p l h=>rw[St.sets,h];rfl
def Qqw (hp:Nat->O_ Ob)(h:H_):L_ Nat->Prop
 | []=>True
 | b::r=>hp b=look h b/\Qqw hp h r
def Qrw {hp:Nat->O_ Ob}{O:H_}:∀{l:L_ Nat},Qqw hp O l->∀b,XM l b=true->hp b=look O b:=by
 intro l
 induction l with
 | nil=>intro _ b h;cases h
 | cons a l ih=>
  intro h b hb;rw[XM]at hb;cases e:Nat.beq a b with
  | true=>rw[<-Ye e];exact h.1
  | false=>rw[e]at hb;exact ih h.2 b (by simpa using hb)
def QpB {O:L_ Nat}:∀{l:H_} {b:Nat},look (l.filter λp=>!(XM O p.1)) b=if XM O b=true then none else look l b:=by
 intro l
 induction l with
 | nil=>intro b;simp[look]
 | cons p l ih=>
  intro b;rw[Bl];by_cases e:p.1=b
  ·subst e;cases h:XM O p.1 with
   | true=>
    simp only[Jo,Bool.false_eq_true,if_false];rw[ih,h];simp
   | false=>
    simp only[Zw,if_true,Bool.false_eq_true,if_false];obtain⟨k,v⟩:=p;rw[QB,QB]
  cases h:XM O p.1 with
  | true=>
   simp only[Jo,Bool.false_eq_true,if_false];rw[ih,Qx (k:=p.1) p.2 l e]
  | false=>
   simp only[Zw,if_true];rw[Qx (k:=p.1) p.2 _ e,ih,Qx (k:=p.1) p.2 l e]
def R.congrHp {C:Xr}{σ σ':St}(hf:σ'.fr=σ.fr)(O:∀o,look σ'.hp o=look σ.hp o){a:Act}{w:World}(hR:R C σ a w):R C σ' a w:=by
 obtain⟨φ,h⟩:=hR;exact⟨φ,h.os,h.tape,h.output,h.size,h.kept,h.inj,λo B hB=>by rw[O];exact h.dom o B hB,h.lt,h.new,⟨h.stay.1,λo ob B h1 h2 h3=>h.stay.2 o ob B h1 (by rw[<-O];exact h2) h3⟩,h.tmps,h.defers,λt v hv=>h.frame t v (by rw[<-hf];exact hv),λo ob hob=>h.heap o ob (by rw[<-O];exact hob)⟩
def mu1 (P:Program)(C:Xr)(T:Uh)(n:Nat)(md:MD)(o:Oper)(f:Operand->O_ V)(hp:Nat->O_ Ob):O_ (Yr×O_ Prop):=match md with
 | .cm en M N dead ms outs r h=>match o.dst with
  | some d=>match o.op with
   | .call c=>bif GS ⟨[],N.map λp=>(p.1,Ob.itr0)⟩ M N dead outs&&Fd (M.map Prod.fst)&&Fd (N.map Prod.fst)&&Nat.ble (d+1) n then match QsR P T f hp c en with
    | some (g,vs,ψ)=>match PU (Ex M) ms vs with
     | some us=>match IJ (Ex M) hp M with
      | some hsC=>match IJ (Ex N) (look outs) N with
       | some O=>match trV (Ex N) r with
        | some r'=>match h with
         | []=>X (⟨dead,O,X (d,r')⟩,X (ψ/\QP P g us hsC (Gives r outs)))
         | _=>match dead with
          | []=>X (⟨[],O.filter (λp=>!(XM h p.1)),X (d,r')⟩,X ((ψ/\QP P g us hsC (Gives r outs))/\Qqw hp O h))
          | _=>none
        | none=>none
       | none=>none
      | none=>none
     | none=>none
    | none=>none
    else none
   | _=>none
  | none=>none
 | .any M=>X (M,X (∀σ:St,(∀x u,f x=X u->σ.opd x=X u)->(∀b u,hp b=X u->look σ.hp b=X u)->Qc P C o σ (M.run σ)))
 | .s=>match o.dst with
  | some d=>match o.op with
   | .assign x=>match f x with
    | some v=>bif Nat.ble (d+1) n then X (⟨[],[],X (d,v)⟩,none)else none
    | none=>none
   | .move x=>match f x with
    | some v=>bif Nat.ble (d+1) n then X (⟨[],[],X (d,v)⟩,none)else none
    | none=>none
   | _=>none
  | none=>match o.op with
   | .store Tx x y=>match f x with
    | some (.loc b i off)=>match f y with
     | some v=>match hp b with
      | some (.var cs)=>match i with
       | 0=>match look T.sz Tx with
        | some k=>bif v.isV&&Nat.beq v.cells.length k&&v.cells.all V.one&&Nat.ble (off+k) cs.length then X (⟨[],[(b,.var (Wl cs off v.cells))],none⟩,none)else none
        | none=>none
       | _=>none
      | _=>none
     | none=>none
    | _=>none
   | _=>none
 | .st r rs'=>match o.dst with
  | some _=>none
  | none=>match o.op with
   | .store Tx x y=>match f x with
    | some (.loc b i off)=>match f y with
     | some v=>match hp b with
      | some (.arr z rs)=>match look T.sz Tx with
       | some k=>bif v.isV&&Nat.beq v.cells.length k&&v.cells.all V.one&&v.cells.all V.dat&&Nat.ble (off+k) z then X (⟨[],[(b,.arr z rs')],none⟩,X (rs[i]? = X r/\rs.set i (Wl r off v.cells)=rs'))else none
       | none=>none
      | _=>none
     | none=>none
    | _=>none
   | _=>none
 | .app rs' m=>match o.dst with
  | some d=>match o.op with
   | .call c=>match c.callee with
    | .builtin .append=>match c.args.toList with
     | [x,y]=>match c.argTypes.toList with
      | [Tx,Ty]=>match f x with
       | some (.own b k)=>match f y with
        | some v=>match hp b with
         | some (.arr z rs)=>match look T.es Tx with
          | some (e,z',by_)=>match look T.zv e with
           | some zs=>bif (look T.es Ty).isSome&&Nat.ble (d+1) n&&!(Nat.ble 619 b)&&Nat.beq z z'&&Nat.beq zs.length z&&!(Nat.beq z 0)&&Nat.ble by_ 32768 then match v with
            | .sl z'' us=>bif Nat.beq z z'' then X (⟨[b],[(b,.arr z rs')],X (d,.own b m)⟩,X (rs.length=k/\decide (k+us.length<=4294967296)=true/\rs++us=rs'/\k+us.length=m))else none
            | _=>none
            else none
           | none=>none
          | none=>none
         | _=>none
        | none=>none
       | _=>none
      | _=>none
     | _=>none
    | _=>none
   | _=>none
  | none=>none
def TS (obj:Bool)(o:Oper)(t:Nat)(fo:Bool)(ms:L_ Yr):L_ (It×Nat)->Nat->O_ DF
 | (.add x h _,j)::r,i+1=>bif Nat.beq x.d t&&Nw o i&&(bif fo then h else bif obj then QcI x h (ms.drop j)else alv x h (ms.drop j))then X x else TS obj o t fo ms r i
 | (.tn _,_)::r,i+1=>TS obj o t fo ms r i
 | _,_=>none
def Qao (B:St)(fo:Bool)(ms:L_ Yr)(h:L_ (It×Nat))(i:Nat)(o:Oper):Operand->O_ V
 | .tmp t=>match look B.fr t with
  | some v=>X v
  | none=>match TS false o t fo ms h i with
   | some x=>X x.v
   | none=>none
 | x=>B.opd x
def Qd8 (B:St)(fo:Bool)(ms:L_ Yr)(h:L_ (It×Nat))(i:Nat)(o:Oper)(b:Nat):O_ Ob:=match look B.hp b with
 | some ob=>X ob
 | none=>match TS true o b fo ms h i with
  | some x=>x.ob
  | none=>none
structure Dr where
 ri:List (It×Nat)
 ms:List Yr
 B:St
 φ:Prop
def UE (P:Program)(C:Xr)(T:Uh)(n:Nat)(ops:Array Oper)(S:St):L_ Dw->L_ Oper->Nat->L_ (It×Nat)->L_ Yr->St->Prop->O_ Dr
 | [],_,_,O,ms,B,φ=>X ⟨O,ms,B,φ⟩
 | .a h sv fl nf::ds,o::l,i,O,ms,B,φ=>match Aa ops o (λt=>Qao (bif fl&&!nf then S else B) (fl&&!nf) ms O i o (.tmp t))with
  | some true=>match o.dst with
   | some d=>bif Nat.ble (d+1) n then match ev1 P C T h o d (Qao (bif fl&&!nf then S else B) (fl&&!nf) ms O i o) (Qd8 (bif fl&&!nf then S else B) (fl&&!nf) ms O i o)with
    | some ⟨v,ob,q⟩=>match sv with
     | none=>UE P C T n ops S ds l (i+1) ((.add ⟨d,v,ob⟩ fl nf,ms.length)::O) ms B (Qal φ q)
     | some (mm,u)=>UE P C T n ops S ds l (i+1) ((.add ⟨d,u,ob⟩ fl nf,ms.length)::O) ms B (Qal φ q/\v.denil mm=u)
    | none=>none
    else none
   | none=>none
  | some false=>match o.dst with
   | some d=>bif Nat.ble (d+1) n then UE P C T n ops S ds l (i+1) ((.add ⟨d,.lit undef,none⟩ fl nf,ms.length)::O) ms B φ else none
   | none=>none
  | none=>none
 | .m md::ds,o::l,i,O,ms,B,φ=>match Aa ops o (λt=>Qao B false ms O i o (.tmp t))with
  | some true=>match mu1 P C T n md o (Qao B false ms O i o) (Qd8 B false ms O i o)with
   | some (M,q)=>UE P C T n ops S ds l (i+1) ((.tn M,ms.length)::O) (ms++[M]) (M.run B) (Qal φ q)
   | none=>none
  | _=>none
 | _::_,[],_,_,_,_,_=>none
def YN (h:L_ (It×Nat)):L_ It:=(h.map Prod.fst).reverse
section
variable {P:Program}{C:Xr}{T:Uh}{Q:Exit->St->Prop}{n:Nat}{ops:Array Oper}{base S:St}{ks:L_ Fr}
def Qm1 {md:MD}{o:Oper}{f:Operand->O_ V}{hp:Nat->O_ Ob}{M:Yr}{q:O_ Prop}{σ:St}(ok:Gc P T)(hN:JK P C n)(e:mu1 P C T n md o f hp=X (M,q))(hq:match q with | none=>True | some p=>p)
  (h1:∀x u,f x=X u->σ.opd x=X u) (h2:∀b u,hp b=X u->look σ.hp b=X u):Qc P C o σ (M.run σ):=by
 have hn:=hN.n;have hpg:=hN.g;unfold mu1 at e;cases md with
 | any M0=>cases e;exact hq σ h1 h2
 | cm en M0 N dead ms outs r same=>
  dsimp only at e;split at e
  ·rename_i d hd;split at e
   ·rename_i c ho;replace e:=Ya e;obtain⟨O,e⟩:=e;simp only[QH]at O;obtain⟨⟨⟨g1,g2⟩,g3⟩,g4⟩:=O;rw[<-hn]at g4;have g1:=Qqv (σ:=σ) g1;have g2:=Gt.1 g2;have g3:=Gt.1 g3;have inj:LU M0=true/\LU N=true:=by
     simp only[GS,QH]at g1;exact⟨g1.1.1.1,g1.1.1.2⟩
    have mM:∀a b,Ex M0 a=X b->look M0 b=X a:=λa b h=>Wt inj.1 (Iw h) g2;have mN:∀a b,Ex N a=X b->look N b=X a:=λa b h=>Wt inj.2 (Iw h) g3;split at e
    ·rename_i g vs ψ hent;split at e
     ·rename_i us hus;split at e
      ·rename_i hsC hC;split at e
       ·rename_i hsN hN;split at e
        ·rename_i r' hr;have call:ψ/\QP P g us hsC (Gives r outs)->Qc P C o σ ((σ.after dead hsN).put d r'):=λhq=>
          Qc.callM (g:=false) (Qqu (C:=C) ok ho hent hq.1 h1 h2) hd g4 hpg g1 g2 (NP mM hus) (EB mM (Qrv h2 hC)) hq.2 (EB mN hN) (PB mN hr)
         split at e
         ·cases e;unfold Yr.run;dsimp only;rw[Qd7];exact call hq
         split at e
         ·cases e;obtain⟨hq1,hq2⟩:=hq;intro a w hR K Q hK;refine call hq1 a w hR K Q λa' w' hR'=>hK a' w' (R.congrHp ?_ (λo=>?_) hR')
          ·unfold Yr.run;dsimp only;rw[Qd7];rfl
          unfold Yr.run;dsimp only;rw[Qd7];show look (_++σ.hp) o=look (_++σ.hp) o;rw[Ap,Ap,QpB];by_cases hm:XM same o=true
          ·rw[if_pos hm];have:=Qrw hq2 o hm;cases hl:look hsN o with
           | none=>rfl
           | some ob=>rw[hl]at this;exact h2 o ob this
          rw[if_neg hm]
         cases e
        cases e
       cases e
      cases e
     cases e
    cases e
   cases e
  cases e
 | s=>
  dsimp only at e;split at e
  ·rename_i d hd;split at e
   ·rename_i x ho;split at e
    ·rename_i v hv;replace e:=Ya e;obtain⟨O,e⟩:=e;rw[<-hn]at O;cases e;exact Qc.assign ho hd O (h1 _ _ hv)
    cases e
   ·rename_i x ho;split at e
    ·rename_i v hv;replace e:=Ya e;obtain⟨O,e⟩:=e;rw[<-hn]at O;cases e;exact Qc.move ho hd O (h1 _ _ hv)
    cases e
   cases e
  rename_i hd;split at e
  ·rename_i Tx x y ho;split at e
   ·rename_i b i off hx;split at e
    ·rename_i v hv;split at e
     ·rename_i cs hb;split at e
      ·split at e
       ·rename_i k hk;replace e:=Ya e;obtain⟨e2,e⟩:=e;cases e;simp only[QH]at e2;obtain⟨⟨⟨a1,a2⟩,a3⟩,a4⟩:=e2;exact Qc.storeL ho hd (h1 _ _ hx) (h2 _ _ hb) (h1 _ _ hv) (V.isV_or a1) (ok.sz hk) (Ye a2) a3 a4 rfl
       cases e
      cases e
     cases e
    cases e
   cases e
  cases e
 | st r rs'=>
  dsimp only at e;split at e
  ·cases e
  rename_i hd;split at e
  ·rename_i Tx x y ho;split at e
   ·rename_i b i off hx;split at e
    ·rename_i v hv;split at e
     ·rename_i z rs hb;split at e
      ·rename_i k hk;replace e:=Ya e;obtain⟨e2,e⟩:=e;cases e;simp only[QH]at e2;obtain⟨⟨⟨⟨a1,a2⟩,a3⟩,a4⟩,a5⟩:=e2;exact Qc.storeA ho hd (h1 _ _ hx) (h2 _ _ hb) hq.1 (h1 _ _ hv) (V.isV_or a1) (ok.sz hk) (Ye a2) a3 a4 a5 hq.2
      cases e
     cases e
    cases e
   cases e
  cases e
 | app rs' m=>
  dsimp only at e;split at e
  ·rename_i d hd;split at e
   ·rename_i c ho;obtain⟨ce,ags,ts⟩:=c;split at e
    ·rename_i hce;dsimp only at hce e;subst hce;split at e
     ·rename_i x y hxy;split at e
      ·rename_i Tx Ty hT;split at e
       ·rename_i b k hx;split at e
        ·rename_i v hv;split at e
         ·rename_i z rs hb;split at e
          ·rename_i et z' by_ hes;split at e
           ·rename_i zs hz;replace e:=Ya e;obtain⟨O,e⟩:=e;simp only[QH,Di]at O;obtain⟨⟨⟨⟨⟨⟨a1,a2⟩,a3⟩,a4⟩,a5⟩,a6⟩,a7⟩:=O;have a4:=Ye a4;subst a4;have a5:=Ye a5;have a6:z≠0:=λh0=>by rw[h0]at a6;cases a6
            rw[<-hn]at a2;obtain⟨⟨e2,z2,by2⟩,hU⟩:∃q,Yp P Ty=X q:=by
             cases hl:look T.es Ty with
             | none=>rw[hl]at a1;cases a1
             | some q=>exact⟨q,ok.es hl⟩
            have ea:ags=#[x,y]:=by rw[<-QbB (xs:=ags),hxy]
            have et:ts=#[Tx,Ty]:=by rw[<-QbB (xs:=ts),hT]
            subst ea;subst et;split at e
            ·rename_i z'' us;replace e:=Ya e;obtain⟨e3,e⟩:=e;have:=Ye e3;subst this;cases e;obtain⟨h4,h5,h6,h7⟩:=hq;exact Qc.appS ho hd a2 (h1 _ _ hx) (h2 _ _ hb) a3 h4 (ok.es hes) hU (ok.zv hz) a5 a6 a7 h5 (h1 _ _ hv) h6 h7
            cases e
           cases e
          cases e
         cases e
        cases e
       cases e
      cases e
     cases e
    cases e
   cases e
  cases e
def QfK {obj:Bool}{o:Oper}{t:Nat}{fo:Bool}{ms:L_ Yr}:∀{ri:L_ (It×Nat)} {i:Nat} {x:DF},i=ri.length->TS obj o t fo ms ri i=X x->
  ∃k O nf j,ri.reverse[k]? = X (.add x O nf,j)/\Nw o k=true/\x.d=t/\(bif fo then O else bif obj then QcI x O (ms.drop j)else alv x O (ms.drop j))=true:=by
 intro ri
 induction ri with
 | nil=>intro i x hi h;subst hi;cases h
 | cons y ri ih=>
  intro i x hi h;subst hi;have up:∀{x:DF},(∃k O nf j,ri.reverse[k]? = X (.add x O nf,j)/\Nw o k=true/\x.d=t/\(bif fo then O else bif obj then QcI x O (ms.drop j)else alv x O (ms.drop j))=true)->∃k O nf j,(y::ri).reverse[k]? = X (.add x O nf,j)/\Nw o k=true/\x.d=t/\(bif fo then O else bif obj then QcI x O (ms.drop j)else alv x O (ms.drop j))=true:=by
   rintro x ⟨k,O,nf,j,h1,h2⟩;refine⟨k,O,nf,j,?_,h2⟩;rw[List.reverse_cons,Jp (Xb.1 h1).1];exact h1
  obtain⟨it,j⟩:=y;cases it with
  | tn M=>rw[Uf,TS]at h;exact up (ih rfl h)
  | add z O nf=>
   rw[Uf,TS]at h;cases hb:(Nat.beq z.d t&&Nw o ri.length&&(bif fo then O else bif obj then QcI z O (ms.drop j)else alv z O (ms.drop j)))with
   | true=>
    rw[hb]at h;cases h;simp only[QH]at hb;exact⟨ri.length,O,nf,j,by simp,hb.1.2,Ye hb.1.1,hb.2⟩
   | false=>rw[hb]at h;exact up (ih rfl h)
def Qd9 {o:Oper}{f:Nat->O_ V}{σ:St}{b:Bool}(h:Aa ops o f=X b)(hx:∀t u,f t=X u->look σ.fr t=X u):Aa ops o (look σ.fr)=X b:=by
 unfold Aa at h ⊢;cases hg:o.guard with
 | none=>simp only[hg]at h ⊢;exact h
 | some p=>
  obtain⟨j,t⟩:=p;simp only[hg]at h ⊢;cases hj:ops[j]? with
  | none=>simp only[hj]at h;cases h
  | some oj=>
   simp only[hj]at h ⊢;cases hd:oj.dst with
   | none=>simp only[hd]at h;cases h
   | some d=>
    simp only[hd]at h ⊢;cases O:f d with
    | none=>simp only[O]at h;cases h
    | some v=>
     have:=hx d v O;simp only[O]at h;simp only[this];exact h
def Kd.want {o:Oper}{σ σ':St}(h:Aa ops o (look σ.fr)=X true)(hs:Qc P C o σ σ'):Kd P C ops o σ σ':=by
 rcases Vg h with⟨hg,_⟩|⟨j,t,d',hg,hj,⟨u,hu,O⟩|⟨_,O⟩⟩
 ·exact Kd.run hg hs
 ·exact Kd.runG hg hj hu (by simpa using O.symm) hs
 cases O
def Kd.unwant {o:Oper}{σ:St}{d:Nat}(h:Aa ops o (look σ.fr)=X false)(hd:o.dst=X d)(hn:B_ d C):Kd P C ops o σ (σ.put d (.lit undef)):=by
 rcases Vg h with⟨_,O⟩|⟨j,t,d',hg,hj,⟨u,hu,O⟩|⟨hu,_⟩⟩
 ·cases O
 ·have:u=!t:=by cases u<;>cases t<;>first | rfl | cases O
  exact Kd.pass hg hj hu this hd hn
 exact Kd.passU hg hj hu hd hn
def QlV (ok:Gc P T)(hN:JK P C n){D:Dr}:∀(ds:L_ Dw) {l:L_ Oper} {i:Nat} {ri:L_ (It×Nat)} {ms:L_ Yr} {B:St} {φ:Prop},UE P C T n ops S ds l i ri ms B φ=X D->i=ri.length->l=ops.toList.drop i->ms=Xn (YN ri)->B=PV base ms->
  (∀k it j,ri.reverse[k]? = X (it,j)->j=j0 (YN ri) k)->D.φ->
  φ/\D.ri.length=i+ds.length/\(∃r,YN D.ri=YN ri++r)/\D.ms=Xn (YN D.ri)/\D.B=PV base D.ms/\(∀k it j,D.ri.reverse[k]? = X (it,j)->j=j0 (YN D.ri) k)/\
   ∀k o it,i<=k->ops[k]? = X o->(YN D.ri)[k]? = X it->Qde P C ops base S (YN D.ri) k o it:=by
 have hn:=hN.n;intro ds
 induction ds with
 | nil=>
  intro l i ri ms B φ h hi hl hms hB hj hφ;cases h;refine⟨hφ,by simp[hi],⟨[],by simp⟩,hms,hB,hj,λk o it hk ho hit=>?_⟩;have:=(Xb.1 hit).1;simp[YN]at this;omega
 | cons d ds ih=>
  intro l i ri ms B φ h hi hl hms hB hj hφ;cases l with
  | nil=>cases d<;>cases h
  | cons o l=>
   have ho:ops[i]? = X o:=by
    have:=congrArg (λx=>x[0]?) hl;simpa using this.symm
   have hl':l=ops.toList.drop (i+1):=by
    have:=congrArg List.tail hl;simpa using this
   have hlen:(YN ri).length=i:=by simp[YN,hi]
   have grow:∀(it:It) (φ0:Prop) (ms':L_ Yr) (B':St),ms'=Xn (YN ri++[it])->B'=PV base ms'->UE P C T n ops S ds l (i+1) ((it,ms.length)::ri) ms' B' φ0=X D->
     (φ0->φ/\∀its:L_ It,(∃r,its=YN ri++(it::r))->Qde P C ops base S its i o it)->
     φ/\D.ri.length=i+(ds.length+1)/\(∃r,YN D.ri=YN ri++r)/\D.ms=Xn (YN D.ri)/\D.B=PV base D.ms/\(∀k it j,D.ri.reverse[k]? = X (it,j)->j=j0 (YN D.ri) k)/\
      ∀k o it,i<=k->ops[k]? = X o->(YN D.ri)[k]? = X it->Qde P C ops base S (YN D.ri) k o it:=by
    intro it φ0 ms' B' hms' hB' h hstep;have hio:YN ((it,ms.length)::ri)=YN ri++[it]:=by simp[YN]
    obtain⟨h1,h2,⟨r,h3⟩,h4,h5,h6,h7⟩:=ih h (by simp[hi]) hl' (by rw[hio];exact hms') hB' (λk it' j hk=>by
     rw[hio];rw[List.reverse_cons]at hk;by_cases hlt:k<ri.length
     ·rw[Jp (by simpa using hlt)]at hk;rw[hj k it' j hk];unfold j0;rw[Qn4 (by omega)]
     rw[JG (by simp;omega)]at hk;have:k-ri.reverse.length=0:=by
      have:=(Xb.1 hk).1;simpa using this
     rw[this]at hk;simp at hk;obtain⟨rfl,rfl⟩:=hk;have hk2:k=ri.length:=by simp at this;omega
     unfold j0;rw[Qn4 (by omega),hms,UV (by omega)]) hφ
    obtain⟨h8,h9⟩:=hstep h1;rw[hio,Ga]at h3;refine⟨h8,by omega,⟨_,h3⟩,h4,h5,h6,λk o' it' hk ho' hit=>?_⟩;rcases WY i k with hlt | hge
    ·exact h7 k o' it' hlt ho' hit
    have:k=i:=by omega
    subst this;rw[ho]at ho';cases ho';have:(YN D.ri)[k]? = X it:=by rw[h3,JG (by omega),hlen];simp
    rw[this]at hit;cases hit;exact h9 _ ⟨r,h3⟩
   have place:∀{its:L_ It} {it:It} {r:L_ It},its=YN ri++(it::r)->(Xn its).take (j0 its i)=ms/\∀k it' j,ri.reverse[k]? = X (it',j)->its[k]? = X it'/\j=j0 its k:=by
    intro its it r O;have h1:its.take i=YN ri:=by rw[O,Qn4 (by omega),UV (by omega)]
    refine⟨?_,λk it' j hk=>⟨?_,?_⟩⟩
    ·unfold j0;rw[h1,O,BL,<-hms];simp
    ·have hk2:(YN ri)[k]? = X it':=by simp only[YN,<-List.map_reverse,Yh,hk,GR]
     rw[O,Jp (Xb.1 hk2).1];exact hk2
    have hkl:=(Xb.1 hk).1;rw[hj k it' j hk];unfold j0;rw[O,Qn4 (by simp at hkl;omega)]
   have envB:∀{its:L_ It} {it:It} {r:L_ It} {σ:St},its=YN ri++(it::r)->EK σ B->(∀k y fl nf,its[k]? = X (.add y fl nf)->Nw o k=true->PW σ y fl (ms.drop (j0 its k)))->
     (∀x u,Qao B false ms ri i o x=X u->σ.opd x=X u)/\∀b u,Qd8 B false ms ri i o b=X u->look σ.hp b=X u:=by
    intro its it r σ O hsub hdep;have dep:∀{t:Nat} {x:DF},TS false o t false ms ri i=X x->look σ.fr x.d=X x.v/\x.d=t:=λhf=>by
     obtain⟨k,fl,nf,j,g1,g2,g3,g4⟩:=QfK hi hf;obtain⟨g5,g6⟩:=(place O).2 k _ j g1;exact⟨(hdep k _ fl nf g5 g2).1 (by rw[<-g6];exact g4),g3⟩
    have depO:∀{t:Nat} {x:DF},TS true o t false ms ri i=X x->(∀ob,x.ob=X ob->look σ.hp x.d=X ob)/\x.d=t:=λhf=>by
     obtain⟨k,fl,nf,j,g1,g2,g3,g4⟩:=QfK hi hf;obtain⟨g5,g6⟩:=(place O).2 k _ j g1;exact⟨(hdep k _ fl nf g5 g2).2 (by rw[<-g6];exact g4),g3⟩
    refine⟨λx u hx=>?_,λb u hx=>?_⟩
    ·cases x with
     | tmp t=>
      simp only[Qao]at hx;split at hx
      ·rename_i v hv;cases hx;exact hsub.1 _ _ hv
      split at hx
      ·rename_i y hy;cases hx;obtain⟨g1,g2⟩:=dep hy;subst g2;exact g1
      cases hx
     | const v=>exact hx
     | global g=>exact hx
     | func f=>exact hx
    simp only[Qd8]at hx;split at hx
    ·rename_i v hv;cases hx;exact hsub.2 _ _ hv
    split at hx
    ·rename_i y hy;obtain⟨g1,g2⟩:=depO hy;subst g2;exact g1 _ hx
    cases hx
   have envS:∀{its:L_ It} {it:It} {r:L_ It} {σ:St},its=YN ri++(it::r)->EK σ S->(∀k y nf,its[k]? = X (.add y true nf)->Nw o k=true->QdV σ y)->
     (∀x u,Qao S true ms ri i o x=X u->σ.opd x=X u)/\∀b u,Qd8 S true ms ri i o b=X u->look σ.hp b=X u:=by
    intro its it r σ O hsub hdep;have dep:∀{b:Bool} {t:Nat} {x:DF},TS b o t true ms ri i=X x->QdV σ x/\x.d=t:=λhf=>by
     obtain⟨k,fl,nf,j,g1,g2,g3,g4⟩:=QfK hi hf;obtain⟨g5,g6⟩:=(place O).2 k _ j g1;have:fl=true:=g4;subst this;exact⟨hdep k _ nf g5 g2,g3⟩
    refine⟨λx u hx=>?_,λb u hx=>?_⟩
    ·cases x with
     | tmp t=>
      simp only[Qao]at hx;split at hx
      ·rename_i v hv;cases hx;exact hsub.1 _ _ hv
      split at hx
      ·rename_i y hy;cases hx;obtain⟨g1,g2⟩:=dep hy;subst g2;exact g1.1
      cases hx
     | const v=>exact hx
     | global g=>exact hx
     | func f=>exact hx
    simp only[Qd8]at hx;split at hx
    ·rename_i v hv;cases hx;exact hsub.2 _ _ hv
    split at hx
    ·rename_i y hy;obtain⟨g1,g2⟩:=dep hy;subst g2;exact g1.2 _ hx
    cases hx
   have addOK:∀{x:DF} {fl nf:Bool} {φ0:Prop},UE P C T n ops S ds l (i+1) ((.add x fl nf,ms.length)::ri) ms B φ0=X D->
     (φ0->φ/\∀σ,(∀y u,Qao (bif fl&&!nf then S else B) (fl&&!nf) ms ri i o y=X u->σ.opd y=X u)->(∀b u,Qd8 (bif fl&&!nf then S else B) (fl&&!nf) ms ri i o b=X u->look σ.hp b=X u)->(x.ob.isSome=true->look σ.hp x.d=none)->Kd P C ops o σ (σ.addF x))->
     φ/\D.ri.length=i+(ds.length+1)/\(∃r,YN D.ri=YN ri++r)/\D.ms=Xn (YN D.ri)/\D.B=PV base D.ms/\(∀k it j,D.ri.reverse[k]? = X (it,j)->j=j0 (YN D.ri) k)/\
      ∀k o it,i<=k->ops[k]? = X o->(YN D.ri)[k]? = X it->Qde P C ops base S (YN D.ri) k o it:=by
    intro x fl nf φ0 h hs;refine grow (.add x fl nf) φ0 ms B (by rw[BL];simp[Xn,hms]) hB h λh0=>?_;obtain⟨g1,g2⟩:=hs h0;refine⟨g1,λits ⟨r,O⟩=>?_⟩;dsimp only[Qde];generalize (fl&&!nf)=ff at g2 ⊢;cases ff with
    | true=>exact λσ hsub hdep hf=>let ⟨a,b⟩:=envS O hsub hdep;g2 σ a b hf
    | false=>
     intro σ hsub hdep hf;rw[(place O).1,<-hB]at hsub;rw[(place O).1]at hdep;obtain⟨a,b⟩:=envB O hsub hdep;exact g2 σ a b hf
   cases d with
   | a h0 sv fl nf=>
    rw[UE]at h;split at h
    ·rename_i hw;split at h
     ·rename_i dd hd;replace h:=Ya h;obtain⟨e1,h⟩:=h;rw[<-hn]at e1;have stp:∀{v:V} {ob:O_ Ob} {q:O_ Prop} {σ:St},ev1 P C T h0 o dd (Qao (bif fl&&!nf then S else B) (fl&&!nf) ms ri i o) (Qd8 (bif fl&&!nf then S else B) (fl&&!nf) ms ri i o)=X ⟨v,ob,q⟩->Rs.holds ⟨v,ob,q⟩->
        (∀x u,Qao (bif fl&&!nf then S else B) (fl&&!nf) ms ri i o x=X u->σ.opd x=X u)->(∀b u,Qd8 (bif fl&&!nf then S else B) (fl&&!nf) ms ri i o b=X u->look σ.hp b=X u)->(ob.isSome=true->look σ.hp dd=none)->Kd P C ops o σ (σ.addF ⟨dd,v,ob⟩):=
       λhe hq hx hh hf=>Kd.want (Qd9 hw λt u ht=>hx (.tmp t) u ht) (QfG ok hd e1 hN.g hx hh he hq hf)
      split at h
      ·rename_i v ob q he;split at h
       ·exact addOK h λh1=>let ⟨a,b⟩:=Qam h1;⟨a,λσ hx hh hf=>stp he b hx hh hf⟩
       refine addOK h λh1=>?_;obtain⟨h1,h2⟩:=h1;subst h2;obtain⟨a,b⟩:=Qam h1;exact⟨a,λσ hx hh hf=>(stp he b hx hh hf).denil⟩
      cases h
     cases h
    ·rename_i hw;split at h
     ·rename_i dd hd;replace h:=Ya h;obtain⟨e1,h⟩:=h;rw[<-hn]at e1;exact addOK h λh1=>⟨h1,λσ hx hh hf=>Kd.unwant (Qd9 hw λt u ht=>hx (.tmp t) u ht) hd e1⟩
     cases h
    cases h
   | m md=>
    rw[UE]at h;split at h
    ·rename_i hw;split at h
     ·rename_i M q he;refine grow (.tn M) (Qal φ q) (ms++[M]) (M.run B) (by rw[BL];simp[Xn,hms]) (by rw[QjZ,<-hB];rfl) h λh1=>?_;obtain⟨a,b⟩:=Qam (v:=.J) (ob:=none) h1;refine⟨a,λits ⟨r,O⟩ σ hsub hdep=>?_⟩;rw[(place O).1,<-hB]at hsub;rw[(place O).1]at hdep;obtain⟨hx,hh⟩:=envB O hsub hdep;refine Kd.want (Qd9 hw λt u ht=>hx (.tmp t) u ht) (Qm1 ok hN he ?_ hx hh);cases q with
      | none=>trivial
      | some p=>exact b
     cases h
    cases h
def LY (ms:L_ Yr):L_ (It×Nat)->S_
 | []=>[]
 | (.add x h _,j)::r=>bif alv x h (ms.drop j)then(x.d,x.v)::LY ms r else LY ms r
 | (.tn _,_)::r=>LY ms r
def Ia (ms:L_ Yr):L_ (It×Nat)->H_
 | []=>[]
 | (.add x h _,j)::r=>bif QcI x h (ms.drop j)then(match x.ob with | some ob=>(x.d,ob)::Ia ms r | none=>Ia ms r)else Ia ms r
 | (.tn _,_)::r=>Ia ms r
def okV (ops:Array Oper)(base S:St)(D:Dr):Bool:=QlN ops&&QsN ops (YN D.ri)&&Qoz base (YN D.ri)&&QlT ops D.ms (YN D.ri)&&QlU ops (YN D.ri) D.ms S&&Qqq ops (YN D.ri)
def OR {α:Type}{l:L_ (Nat×α)}:∀{O:L_ Nat} {r:L_ (Nat×α)},Xy l O=X r->∀p∈r,look l p.1=X p.2:=by
 intro O
 induction O with
 | nil=>intro r h p hp;cases h;cases hp
 | cons t O ih=>
  intro r h p hp;rw[Xy]at h;split at h
  ·rename_i v hv;split at h
   ·rename_i r' hr;cases h;rcases XT.1 hp with rfl | hp
    ·exact hv
    exact ih hr p hp
   cases h
  cases h
def QoB {fr:S_}:∀{l:S_},(∀p∈l,look fr p.1=X p.2)->Mz fr l:=by
 intro l
 induction l with
 | nil=>intro _;trivial
 | cons p l ih=>intro h;exact⟨h p YY,ih λq O=>h q (Kb _ O)⟩
def Qig {fr:H_}:∀{l:H_},(∀p∈l,look fr p.1=X p.2)->Hl fr l:=by
 intro l
 induction l with
 | nil=>intro _;trivial
 | cons p l ih=>intro h;exact⟨h p YY,ih λq O=>h q (Kb _ O)⟩
def AK.draw2 {id:Nat}(ok:Gc P T)(hN:JK P C n)(hmix:P.follows .mixedOrders=true)(ds:L_ Dw)(sts sos ts os:L_ Nat){sf:S_}{sh:H_}{fr:S_}{hp:H_}{O:L_ (It×Nat)}{ms:L_ Yr}{B:St}{φ:Prop}
  (hS1:Xy base.fr sts=X sf) (hS2:Xy base.hp sos=X sh)
  (e:UE P C T n ops ⟨sf,sh⟩ ds ops.toList 0 [] [] base True=X ⟨O,ms,B,φ⟩) (hφ:φ) (hl:ds.length=ops.size) (hk:okV ops base ⟨sf,sh⟩ ⟨O,ms,B,φ⟩=true)
  (hf1:Xy (LY ms O++B.fr) ts=X fr) (hf2:Xy (Ia ms O++B.hp) os=X hp) (hc:St.closed ⟨fr,hp⟩=true) (k:AK P C Q (.x .normal) ks ⟨fr,hp⟩):AK P C Q (.c (.region id ops true)) ks base:=by
 have hn:=hN.n;obtain⟨D,hD⟩:∃D:Dr,D=⟨O,ms,B,φ⟩:=⟨_,rfl⟩;rw[<-hD]at e hk;have hφ:D.φ:=by rw[hD];exact hφ
 have hf1:Xy (LY D.ms D.ri++D.B.fr) ts=X fr:=by rw[hD];exact hf1
 have hf2:Xy (Ia D.ms D.ri++D.B.hp) os=X hp:=by rw[hD];exact hf2
 clear hD;simp only[okV,QH]at hk;obtain⟨⟨⟨⟨⟨k1,k2⟩,k3⟩,k4⟩,k5⟩,k6⟩:=hk;obtain⟨_,h2,_,h4,h5,h6,h7⟩:=QlV (base:=base) ok hN ds e rfl rfl rfl rfl (λk it j h=>by simp at h) hφ;have hlen:(YN D.ri).length=ops.size:=by simp[YN];omega
 rw[h4]at k4 k5;have hS:EK base ⟨sf,sh⟩:=⟨λt v h=>by
  have:=OR hS1 (t,v) (JD h);exact this,λp ob h=>by have:=OR hS2 (p,ob) (JD h);exact this⟩
 refine AK.drawV hmix hlen k1 k2 k3 k6 k4 k5 hS (λi o it ho hit=>h7 i o it (LQ _) ho hit) λσ hsub hadd=>?_;rw[<-h4,<-h5]at hsub;have hadd':∀x fl nf j,(It.add x fl nf,j)∈D.ri->PW σ x fl (D.ms.drop j):=by
  intro x fl nf j hm;obtain⟨i,hi⟩:=List.getElem?_of_mem (List.mem_reverse.2 hm);have hj:=h6 i _ j hi;rw[hj,h4];refine hadd i x fl nf ?_;simp only[YN,<-List.map_reverse,Yh,hi,GR]
 have frOK:∀{O:L_ (It×Nat)},(∀q∈O,q∈D.ri)->∀{t:Nat} {v:V},look (LY D.ms O) t=X v->look σ.fr t=X v:=by
  intro O
  induction O with
  | nil=>intro _ t v h;cases h
  | cons y O ih=>
   intro hm t v h;have hm':=λq hq=>hm q (Kb _ hq);obtain⟨it,j⟩:=y;cases it with
   | tn M=>exact ih hm' h
   | add x fl nf=>
    rw[LY]at h;cases hal:alv x fl (D.ms.drop j)with
    | false=>rw[hal]at h;exact ih hm' h
    | true=>
     rw[hal]at h;have h:look ((x.d,x.v)::LY D.ms O) t=X v:=h;by_cases e:x.d=t
     ·subst e;rw[QB]at h;cases h;exact(hadd' x fl nf j (hm _ YY)).1 hal
     rw[Qx _ _ e]at h;exact ih hm' h
 have hpOK:∀{O:L_ (It×Nat)},(∀q∈O,q∈D.ri)->∀{t:Nat} {v:Ob},look (Ia D.ms O) t=X v->look σ.hp t=X v:=by
  intro O
  induction O with
  | nil=>intro _ t v h;cases h
  | cons y O ih=>
   intro hm t v h;have hm':=λq hq=>hm q (Kb _ hq);obtain⟨it,j⟩:=y;cases it with
   | tn M=>exact ih hm' h
   | add x fl nf=>
    rw[Ia]at h;cases hal:QcI x fl (D.ms.drop j)with
    | false=>rw[hal]at h;exact ih hm' h
    | true=>
     rw[hal]at h;cases hob:x.ob with
     | none=>rw[hob]at h;exact ih hm' h
     | some ob=>
      rw[hob]at h;have h:look ((x.d,ob)::Ia D.ms O) t=X v:=h;by_cases e:x.d=t
      ·subst e;rw[QB]at h;cases h;exact(hadd' x fl nf j (hm _ YY)).2 hal _ hob
      rw[Qx _ _ e]at h;exact ih hm' h
 refine AK.weaken (λa w hR=>hR.to (QoB λp hp'=>?_) (Qig λp hp'=>?_) hc) k
 ·have:=OR hf1 p hp';rw[Ap]at this;cases hl:look (LY D.ms D.ri) p.1 with
  | some v=>rw[hl]at this;cases this;exact frOK (λ_ h=>h) hl
  | none=>rw[hl]at this;exact hsub.1 _ _ this
 have:=OR hf2 p hp';rw[Ap]at this;cases hl:look (Ia D.ms D.ri) p.1 with
 | some v=>rw[hl]at this;cases this;exact hpOK (λ_ h=>h) hl
 | none=>rw[hl]at this;exact hsub.2 _ _ this
end
def Qc.callSame {P:Program}{C:Xr}{T:Uh}{n:Nat}{o:Oper}{md:MD}{f:Operand->O_ V}{hp:Nat->O_ Ob}{σ:St}{d:Nat}{v:V}{q:Prop}(ok:Gc P T)(hN:JK P C n)(h:∀x u,f x=X u->σ.opd x=X u)(O:∀b u,hp b=X u->look σ.hp b=X u)
  (e:mu1 P C T n md o f hp=X (⟨[],[],X (d,v)⟩,X q)) (hq:q):Qc P C o σ (σ.addF ⟨d,v,none⟩):=Qm1 (q:=X q) ok hN e hq h O
def Oo {α:Type}{f:α->L_ V}{l:L_ α}{k h:Nat}:((l.map f).drop k).take (h-k)=((l.drop k).take (h-k)).map f:=by simp
def dropL {α:Type}{l:L_ α}{k:Nat}:l.length-k=(l.drop k).length:=La.symm
section
variable {P:Program}{C:Xr}{σ:St}{o:Oper}
def QlW (P:Program)(T:TypeId)(k:IntKind):Bool:=match P.underlying T with
 | some (.int q)=>ikB q k
 | _=>false
def QoC {T:TypeId}{k:IntKind}(h:QlW P T k=true):P.underlying T=X (.int k):=by
 unfold QlW at h;split at h
 ·rename_i q O;rw[O,Qol h]
 cases h
def Qc.convI {S T d:Nat}{x:Operand}{k h:IntKind}{n:Int}(ho:o.op=.convert S T x)(hd:o.dst=X d)(hn:B_ d C)(hx:σ.opd x=X (.i h n))(hs:QlW P S h=true)(O:QlW P T k=true):Qc P C o σ (σ.put d (.i k (k.wrap n))):=by
 refine Qc.same hd hn λφ a w hr=>⟨.int k (k.wrap n),?_,.dat (.i _ _)⟩;simp[execOp,ho,(hr.opd hx).i_inv,convert,run_underlying (QoC hs),run_underlying (QoC O),Conv.intToInt]
def Qqx (k:IntKind)(m n:Int):Int:=k.wrap (m*2 ^ (min n.toNat k.bits))
def GN (k:IntKind)(m n:Int):Int:=m.fdiv (2 ^ (min n.toNat k.bits))
def Qc.shl {x y:Operand}{T U d:Nat}{k k':IntKind}{m n:Int}(ho:o.op=.binOp .shl T x y U)(O:o.dst=X d)(hn:B_ d C)(hx:σ.opd x=X (.i k m))(hy:σ.opd y=X (.i k' n))(h0:0<=n):Qc P C o σ (σ.put d (.i k (Qqx k m n))):=by
 refine Qc.same O hn λφ a w h=>⟨.int k _,?_,.dat (.i _ _)⟩;have:¬n<0:=by omega
 simp[execOp,ho,(h.opd hx).i_inv,(h.opd hy).i_inv,eqGuard,binOp,Op.shift,this,Qqx]
def Qc.shr {x y:Operand}{T U d:Nat}{k k':IntKind}{m n:Int}(ho:o.op=.binOp .shr T x y U)(O:o.dst=X d)(hn:B_ d C)(hx:σ.opd x=X (.i k m))(hy:σ.opd y=X (.i k' n))(h0:0<=n):Qc P C o σ (σ.put d (.i k (GN k m n))):=by
 refine Qc.same O hn λφ a w h=>⟨.int k _,?_,.dat (.i _ _)⟩;have:¬n<0:=by omega
 simp[execOp,ho,(h.opd hx).i_inv,(h.opd hy).i_inv,eqGuard,binOp,Op.shift,this,GN]
def Ge (k:IntKind)(m n:Int):Int:=k.wrap ((BitVec.ofInt k.bits m &&& BitVec.ofInt k.bits n).toNat:Int)
def Qc.andB {x y:Operand}{T U d:Nat}{k:IntKind}{m n:Int}(ho:o.op=.binOp .and T x y U)(O:o.dst=X d)(hn:B_ d C)(hx:σ.opd x=X (.i k m))(hy:σ.opd y=X (.i k n)):Qc P C o σ (σ.put d (.i k (Ge k m n))):=
 Qc.same O hn λφ a w h=>⟨.int k _,by simp[execOp,ho,(h.opd hx).i_inv,(h.opd hy).i_inv,eqGuard,binOp,Op.intBits,Ge],.dat (.i _ _)⟩
def Ff : L_ V->O_ (L_ Value)
 | []=>X []
 | .i k n::r=>(Ff r).map (.int k n::·)
 | .b x::r=>(Ff r).map (.bool x::·)
 | .s x::r=>(Ff r).map (.string x::·)
 | _=>none
def Qrx {φ:Nat->O_ QY}{I:Nat->Prop}{w:World}:∀{O:L_ V} {vs xs:L_ Value},Ff O=X vs->xs.length=O.length->(∀(j:Nat) x v,xs[j]? = X x->O[j]? = X v->QO φ I w x v)->xs=vs:=by
 intro O
 induction O with
 | nil=>intro vs xs h hl _;cases h;exact Qn3 hl
 | cons c O ih=>
  intro vs xs h hl hr;cases xs with
  | nil=>cases hl
  | cons x xs=>
   have h0:=hr 0 x c rfl rfl;have hi:∀{us:L_ Value},Ff O=X us->xs=us:=λe=>ih e (by simpa using hl) λj x v a b=>hr (j+1) x v a b;cases c with
   | i k n=>simp only[Ff,Yc]at h;obtain⟨us,e,rfl⟩:=h;rw[h0.i_inv,hi e]
   | b k=>simp only[Ff,Yc]at h;obtain⟨us,e,rfl⟩:=h;rw[h0.b_inv,hi e]
   | s k=>simp only[Ff,Yc]at h;obtain⟨us,e,rfl⟩:=h;rw[h0.s_inv,hi e]
   | _=>cases h
def QO.aggVals {φ:Nat->O_ QY}{I:Nat->Prop}{w:World}{x:Value}{O:L_ V}{vs:L_ Value}(h:QO φ I w x (.agg O))(hv:Ff O=X vs):x=.agg vs.toArray:=by
 obtain⟨xs,rfl,hs,hr⟩:=h.agg_inv;have:=Qrx (xs:=xs.toList) hv (by simpa using hs) λj x v a b=>hr j x v (by simpa using a) b;rw[<-this]
def EqT (P:Program)(T:TypeId)(vs us:L_ Value)(r:Bool):Prop:=P.eqGuardType P.depth T=false/\∀w,(Op.equalIn 10000 T (.agg vs.toArray) (.agg us.toArray)).run P w=.ok r w
def Qc.eqAgg {x y:Operand}{T U d:Nat}{O ds:L_ V}{vs us:L_ Value}{r:Bool}(ho:o.op=.binOp .eql T x y U)(hd:o.dst=X d)(hn:B_ d C)(hx:σ.opd x=X (.agg O))(hy:σ.opd y=X (.agg ds))(hv:Ff O=X vs)(hu:Ff ds=X us)(h:EqT P T vs us r):
  Qc P C o σ (σ.put d (.b r)):=by
 refine Qc.same hd hn λφ a w hr=>⟨.bool r,?_,.dat (.b _)⟩;have h1:=(hr.opd hx).aggVals hv;have h2:=(hr.opd hy).aggVals hu;have h3:=h.2 w;simp only[execOp,ho,h1,h2,eqGuard,Xd,run_program,Xf,h.1];simp[binOp,Op.equal,Op.maxDepth,h3,h.1]
def Qc.neAgg {x y:Operand}{T U d:Nat}{O ds:L_ V}{vs us:L_ Value}{r:Bool}(ho:o.op=.binOp .neq T x y U)(hd:o.dst=X d)(hn:B_ d C)(hx:σ.opd x=X (.agg O))(hy:σ.opd y=X (.agg ds))(hv:Ff O=X vs)(hu:Ff ds=X us)(h:EqT P T vs us r):
  Qc P C o σ (σ.put d (.b (!r))):=by
 refine Qc.same hd hn λφ a w hr=>⟨.bool (!r),?_,.dat (.b _)⟩;have h1:=(hr.opd hx).aggVals hv;have h2:=(hr.opd hy).aggVals hu;have h3:=h.2 w;simp only[execOp,ho,h1,h2,eqGuard,Xd,run_program,Xf,h.1];simp[binOp,Op.equal,Op.maxDepth,h3,h.1]
end
section
variable {P:Program}{C:Xr}{σ:St}{Q:Exit->St->Prop}{ks:L_ Fr}{ops:Array Oper}{rest:L_ Oper}{o:Oper}
def AK.eqNil {x y:Operand}{T U d e z:Nat}{rows:L_ (L_ V)}(hg:o.guard=none)(ho:o.op=.binOp .eql T x y U)(hd:o.dst=X d)(hn:B_ d C)(hx:σ.opd x=X (.sl z rows))(hy:σ.opd y=X (.lit (.slice none 0 0)))(hT:P.underlying T=X (.slice e))
  (h1:rows=[]->AK P C Q (.o ops rest) ks (σ.put d (.b true))) (h2:AK P C Q (.o ops rest) ks (σ.put d (.b false))):AK P C Q (.o ops (o::rest)) ks σ:=by
 intro a w hR;obtain⟨φ,hr⟩:=hR;have hyv:a.eval y=.slice none 0 0:=(hr.opd hy).lit_inv;have h:∀p l c,a.eval x=.slice p l c->(execOp a.eval o).run P w=.ok (.value (.bool p.isNone)) w:=λp l c e=>by
  simp[execOp,ho,e,hyv,eqGuard,binOp,run_equal_slice_nil w T _ p l c hT]
 have go:∀{v:Bool} {σ':St},(execOp a.eval o).run P w=.ok (.value (.bool v)) w->σ'=σ.put d (.b v)->AK P C Q (.o ops rest) ks σ'->wpListIn C.F 0 P ops (up C (unw P C Q ks)) (o::rest) a w:=λ{v σ'} e e2 k=>by
  have:Qc P C { o with op:=.move (.const (.bool v)) } σ (σ.put d (.b v)):=Qc.move rfl hd hn rfl;simp only[wpListIn,Region.wanted,hg,if_true];refine⟨λ_ _=>trivial,?_⟩;rw[Qfv e,Oper.uponIn_value];subst e2;refine k _ _ ⟨φ,?_⟩;rw[hd];exact hr.put (XH hn) (.dat (.b _))
 rcases(hr.opd hx).sl_inv with⟨p,c,O,h0⟩|⟨b,off,cap,O,_⟩
 ·cases p with
  | none=>exact go (h none 0 c O) rfl (h1 h0)
  | some p=>exact go (h (X p) 0 c O) rfl h2
 exact go (h _ _ _ O) rfl h2
end
section
variable {P:Program}{C:Xr}{σ:St}{o:Oper}
def Qc.buildAny {T d e z by_ n:Nat}{O:Array (Nat×Operand)}{zs vs:L_ V}{qs:S_}(ho:o.op=.buildSlice T n O)(hd:o.dst=X d)(hn:B_ d C)
  (hT:Yp P T=X (e,z,by_)) (hz:XZ P e=X zs) (hzl:zs.length=z) (hz0:z≠0) (hbig:n*z<=16777216) (hq:σ.opds O.toList=X qs) (hv:qs.all (λq=>q.2.isV)=true)
  (hf:UX (λi=>X (i*z,z)) ((List.range (n*z)).map λk=>zs.getD (k % z) .J) qs=X vs)
  (hfr:look σ.hp d=none):Qc P C o σ ((σ.set d (.var vs)).put d (.own d n)):=by
 refine Qc.val λφ a w hr=>?_;obtain⟨hu,i,hi,hi1,_⟩:=Kc hT;obtain⟨i',zv,hi',hz',rfl⟩:=BZ hz;rw[hi]at hi';cases hi';have hzs:zv.cells.size=i.size:=by rw[hi1];simpa using hzl
 have hf0:=hf;rw[<-hi1]at hf;rw[<-QdS zv.cells n i.size hzs (by omega)]at hf;obtain⟨xs',h1,h2,h3⟩:=hr.fill hq hv hf;refine⟨.slice (X ⟨w.heap.size,0,none⟩) n n,w.alloc (.cells xs' e),ext φ d ⟨w.heap.size,n,1,[],0⟩,?_,?_⟩
 ·have e2:(O.map λp=>(p.1,a.eval p.2)).toList=O.toList.map λp=>(p.1,a.eval p.2):=by simp
  have hb:¬(n*i.size > 2 ^ 24):=by rw[hi1];omega
  by_cases hn0:n*i.size=0
  ·have hn1:n=0:=by
    rw[hi1]at hn0;rcases Nat.mul_eq_zero.1 hn0 with h | h
    ·exact h
    exact absurd h hz0
   subst hn1;simp only[Fc]at h1;rw[QdK,Qh9]at h1;simp only[execOp,ho,Instr.buildSlice,Xd,run_underlying hu,Xf,sizeOf,typeInfo,run_program,hi,Xp,Fc,if_true,e2,QdK,Qh9];simp[h1,newRow]
  simp only[execOp,ho,Instr.buildSlice,Xd,run_underlying hu,Xf,sizeOf,typeInfo,run_program,hi,Xp,if_neg hb,if_neg hn0,zeroValue,hz',e2,h1,newRow,run_newObj];simp
 have hN:=hr.none_of_look hfr;have hnew:=hr.alloc (cap:=n) (z:=1) hfr (C.slot hn) (ob:=.var vs) (obj:=.cells xs' e)
  ⟨xs',e,heap_alloc_new w _,h2,rfl,λj x v hx hv'=>(h3 j x v hx hv').mono (hr.mono_ext _ hN) (hr.imm_alloc d n 1 _ hN)⟩
 rw[hd];refine hnew.put (XH hn) ?_;exact .own d n ⟨w.heap.size,n,1,[],0⟩ (XF _ _ _) (Yj _)
def Qc.idxV {T d e z by_ b n m:Nat}{x y:Operand}{cs:L_ V}{k:IntKind}{j:Int}(ho:o.op=.indexAddr T x y)(hd:o.dst=X d)(hn:B_ d C)
  (hx:σ.opd x=X (.own b n)) (hy:σ.opd y=X (.i k j)) (hT:Yp P T=X (e,z,by_)) (hb:look σ.hp b=X (.var cs)) (h:(0<=j/\j<n)/\j.toNat*z=m):
  Qc P C o σ (σ.put d (.loc b 0 m)):=by
 refine Qc.same hd hn λφ a w hr=>?_;obtain⟨⟨h,h1⟩,rfl⟩:=h;rcases(hr.opd hx).own_inv with⟨_,rfl⟩|⟨B,hB,O,he⟩
 ·omega
 refine⟨.pointer (X ⟨B.b,B.off+(0*B.z+j.toNat*z),none⟩),?_,.loc b 0 (j.toNat*z) B hB⟩;simp only[execOp,ho,he,(hr.opd hy).i_inv,Xd,Qag hT h h1,Xf,Xp,Addr.add_lit,Fc,Gq]
end
section
variable {P:Program}{C:Xr}{Q:Exit->St->Prop}
def Rnd (P:Program)(C:Xr)(Q:Exit->St->Prop)(ks:L_ Fr)(c:Code):Nat->St->Prop
 | 0,_=>False
 | n+1,σ=>AK P C Q (.c c) (.cut (Rnd P C Q ks c n)::ks) σ
def AK.rnd {ks:L_ Fr}{c:Code}{n:Nat}{σ:St}(h:AK P C Q (.c c) (.cut (Rnd P C Q ks c n)::ks) σ):Rnd P C Q ks c (n+1) σ:=h
def AK.loopN {ks:L_ Fr}{c:Code}(n:Nat){σ:St}(h:Rnd P C Q ks c n σ):AK P C Q (.c (.loop c)) ks σ:=by
 have key:∀(n:Nat) (σ:St) (a:Act) (w:World),Rnd P C Q ks c n σ->R C σ a w->Code.roundsIn C.F 0 P c (up C (unw P C Q ks)) n a w:=by
  intro n
  induction n with
  | zero=>intro σ a w h;exact h.elim
  | succ n ih=>
   intro σ a w h O;rw[roundsIn_succ];refine wpIn_mono (h a w O) ?_;rintro e a' w' ⟨σ',h1,h2⟩;cases e with
   | normal=>exact ih σ' a' w' h1 h2
   | _=>exact⟨σ',h1,h2⟩
 exact λa w O=>wpIn_loop_rounds n (key n σ a w h O)
end
end Go.Vm
