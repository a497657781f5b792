/- A part of the proof; what it holds is told at each theorem. -/
import Derived.Test.YtpijolohkdchcaaGreatDoorXVmP
set_option linter.unusedVariables false
set_option linter.unusedSimpArgs false
set_option linter.unusedSectionVars false
set_option linter.deprecated false
namespace Go.Vm
open Go Go.RowKit
section
variable {κ α β:Type}[DecidableEq κ]
def mget : List (κ×α)→κ→Option α
 | [],_=>none
 | (a,x)::r,k=>if a=k then some x else mget r k
def mins (lt:κ→κ→Bool):List (κ×α)→κ→α→List (κ×α)
 | [],k,v=>[(k,v)]
 | (a,x)::r,k,v=>if lt k a=true then(k,v)::(a,x)::r else(a,x)::mins lt r k v
def mrep : List (κ×α)→κ→α→List (κ×α)
 | [],_,_=>[]
 | (a,x)::r,k,v=>if a=k then(k,v)::r else(a,x)::mrep r k v
def mset (lt:κ→κ→Bool)(l:List (κ×α))(k:κ)(v:α):List (κ×α):=match mget l k with
 | some _=>mrep l k v
 | none=>mins lt l k v
theorem QpD : ∀{l:List (κ×α)} {k:κ} {v:α},mget l k=some v→(k,v)∈l:=by
 intro l
 induction l with
 | nil=>intro k v h;cases h
 | cons p l ih=>
  intro k v h
  obtain⟨a,x⟩:=p
  rw [mget]at h
  split at h
  ·rename_i e;subst e;cases h;exact List.mem_cons_self
  ·exact List.mem_cons_of_mem _ (ih h)
theorem Qpy : ∀{l:List (κ×α)} {k:κ} {v:α},(l.map Prod.fst).Nodup→(k,v)∈l→mget l k=some v:=by
 intro l
 induction l with
 | nil=>intro k v _ h;cases h
 | cons p l ih=>
  intro k v hn h
  obtain⟨a,x⟩:=p
  rw [List.map_cons,List.nodup_cons]at hn
  rw [mget]
  rcases List.mem_cons.1 h with h | h
  ·cases h;simp
  ·have:a≠k:=fun e=>hn.1 (by rw [show(a,x).1=k from e];exact List.mem_map.2 ⟨(k,v),h,rfl⟩)
   rw [if_neg this];exact ih hn.2 h
theorem QtB : ∀{l:List (κ×α)} {k:κ},mget l k=none→∀p∈l,p.1≠k:=by
 intro l
 induction l with
 | nil=>intro k _ p h;cases h
 | cons q l ih=>
  intro k h p hp
  obtain⟨a,x⟩:=q
  rw [mget]at h
  split at h
  ·cases h
  ·rename_i hne
   rcases List.mem_cons.1 hp with e | hp
   ·subst e;exact hne
   ·exact ih h p hp
theorem Qoa (lt:κ→κ→Bool):∀(l:List (κ×α)) (k:κ) (v:α),(mins lt l k v).Perm ((k,v)::l):=by
 intro l
 induction l with
 | nil=>intro k v;exact .refl _
 | cons p l ih=>
  intro k v
  obtain⟨a,x⟩:=p
  rw [mins]
  split
  ·exact .refl _
  ·exact((ih k v).cons (a,x)).trans (.swap _ _ _)
theorem QpE : ∀(l:List (κ×α)) (k:κ) (v:α),(mrep l k v).map Prod.fst=l.map Prod.fst:=by
 intro l
 induction l with
 | nil=>intro k v;rfl
 | cons p l ih=>
  intro k v
  obtain⟨a,x⟩:=p
  rw [mrep]
  split
  ·rename_i e;subst e;rfl
  ·rw [List.map_cons,List.map_cons,ih]
theorem Quh : ∀{l:List (κ×α)} {k:κ} {v:α},(l.map Prod.fst).Nodup→(∃x,(k,x)∈l)→∀p,p∈mrep l k v↔p=(k,v)∨(p∈l∧p.1≠k):=by
 intro l
 induction l with
 | nil=>intro k v _ ⟨x,h⟩;cases h
 | cons q l ih=>
  intro k v hn ⟨x,hx⟩ p
  obtain⟨a,y⟩:=q
  rw [List.map_cons,List.nodup_cons]at hn
  rw [mrep]
  split
  ·rename_i e
   subst e
   have hno:∀p∈l,p.1≠a:=fun p hp e=>hn.1 (List.mem_map.2 ⟨p,hp,e⟩)
   constructor
   ·intro h
    rcases List.mem_cons.1 h with h | h
    ·exact .inl h
    ·exact .inr ⟨List.mem_cons_of_mem _ h,hno p h⟩
   ·rintro (h | ⟨h,h'⟩)
    ·rw [h];exact List.mem_cons_self
    ·rcases List.mem_cons.1 h with h | h
     ·subst h;exact absurd rfl h'
     ·exact List.mem_cons_of_mem _ h
  ·rename_i hne
   have hx':(k,x)∈l:=by
    rcases List.mem_cons.1 hx with h | h
    ·cases h;exact absurd rfl hne
    ·exact h
   have:=ih hn.2 ⟨x,hx'⟩ (v:=v) p
   rw [List.mem_cons,this,List.mem_cons]
   constructor
   ·rintro (h | h | h)
    ·subst h;exact .inr ⟨.inl rfl,hne⟩
    ·exact .inl h
    ·exact .inr ⟨.inr h.1,h.2⟩
   ·rintro (h | ⟨h | h,h'⟩)
    ·exact .inr (.inl h)
    ·exact .inl h
    ·exact .inr (.inr ⟨h,h'⟩)
theorem QsX (lt:κ→κ→Bool){l:List (κ×α)}{k:κ}{v:α}(h:(l.map Prod.fst).Nodup):((mset lt l k v).map Prod.fst).Nodup:=by
 unfold mset
 split
 ·rw [QpE];exact h
 ·rename_i hn
  refine(((Qoa lt l k v).map Prod.fst).nodup_iff).2 ?_
  rw [List.map_cons,List.nodup_cons]
  refine⟨fun hm=>?_,h⟩
  obtain⟨p,hp,e⟩:=List.mem_map.1 hm
  exact QtB hn p hp e
end
def mapV {κ α:Type}(e:κ→V)(f:α→V)(l:List (κ×α)):List (V×V):=l.map fun p=>(e p.1,f p.2)
structure Qgb (P:Program) (K:TypeId) {κ:Type} (e:κ→V) (val:κ→Value):Prop where
 d:∃D,P.underlying K=some D∧∀k,MapKept.IsKey D (val k)
 inv:∀I w x k,Dat I w x (e k)→x=val k
 dat:∀I w k,Dat I w (val k) (e k)
 edat:∀k,(e k).dat=true
 inj:∀a b,val a=val b→a=b
 einj:∀a b,e a=e b→a=b
def intB (P:Program)(K:TypeId)(kk:IntKind):Bool:=match P.underlying K with
 | some (.int k)=>decide (k=kk)
 | _=>false
theorem Qgb.int {P:Program}{K:TypeId}{kk:IntKind}(h:intB P K kk=true):Qgb P K (V.i kk) (Value.int kk):=by
 unfold intB at h
 split at h
 ·rename_i k hk
  have:=of_decide_eq_true h
  subst this
  refine⟨⟨_,hk,fun _=>rfl⟩,fun I w x k h=>by cases h;rfl,fun I w k=>.i _ _,fun _=>rfl,fun a b h=>by cases h;rfl,fun a b h=>by cases h;rfl⟩
 ·cases h
theorem Qgb.str {P:Program}{K:TypeId}(h:strB P K=true):Qgb P K V.s Value.string:=
 ⟨⟨_,QpC h,fun _=>trivial⟩,fun I w x k h=>by cases h;rfl,fun I w k=>.s _,fun _=>rfl,fun a b h=>by cases h;rfl,fun a b h=>by cases h;rfl⟩
section
variable {P:Program}{K:TypeId}{κ α:Type}[DecidableEq κ]{e:κ→V}{val:κ→Value}{f:α→V}{I:Nat→Prop}{w:World}{B:Blk}{l:List (κ×α)}
theorem Qnd (he:∀a b,e a=e b→a=b):((mapV e f l).map Prod.fst).Nodup↔(l.map Prod.fst).Nodup:=by
 have:(mapV e f l).map Prod.fst=(l.map Prod.fst).map e:=by simp [mapV]
 rw [this]
 constructor
 ·intro h;exact(List.pairwise_map.1 h).imp fun hab e'=>hab (by rw [e'])
 ·intro h;exact List.pairwise_map.2 (h.imp fun hab e'=>hab (he _ _ e'))
theorem Qdy.find (hk:Qgb P K e val){D:TypeDesc}(hD:P.underlying K=some D)(h:Qdy I w B (mapV e f l))(k:κ):∃es clock,w.heap[B.b]? = some (.map es clock)∧MapKept.Stamped es clock∧(l.map Prod.fst).Nodup∧
  es.size=l.length∧MapKept.IsKey D (val k)∧
  ((mget l k=none∧Instr.findNow D (val k) es.toList 0=some none∧∀x∈es.toList,x.key≠val k)∨
   ∃j x v,mget l k=some v∧Instr.findNow D (val k) es.toList 0=some (some (j,x.val))∧es[j]? = some x∧x.key=val k∧Dat I w x.val (f v)):=by
 obtain⟨es,clock,h1,h2,h3,h4,h5,h6⟩:=h
 obtain⟨D',hD',hK⟩:=hk.d
 rw [hD]at hD';cases hD'
 have hn:=(Qnd hk.einj).1 h3
 have hrow:∀x∈es.toList,∃a y,(a,y)∈l∧x.key=val a∧Dat I w x.val (f y):=fun x hx=>by
  obtain⟨p,hp,a1,a2⟩:=h5 x hx
  obtain⟨q,hq,rfl⟩:=List.mem_map.1 hp
  exact⟨q.1,q.2,hq,hk.inv _ _ _ _ a1,a2⟩
 have hks:∀x∈es.toList,MapKept.IsKey D x.key:=fun x hx=>by obtain⟨a,y,_,e1,_⟩:=hrow x hx;rw [e1];exact hK a
 refine⟨es,clock,h1,h2,hn,by rw [h4,mapV,List.length_map],hK k,?_⟩
 rcases MapKept.findNow_spec (hK k) es.toList 0 hks with⟨g1,g2⟩|⟨j,x,g1,g2,g3⟩
 ·refine .inl ⟨?_,g1,g2⟩
  cases hg:mget l k with
  | none=>rfl
  | some v=>
   obtain⟨x,hx,a1,_⟩:=h6 (e k,f v) (List.mem_map.2 ⟨(k,v),QpD hg,rfl⟩)
   exact absurd (hk.inv _ _ _ _ a1) (g2 x hx)
 ·obtain⟨a,y,hm,e1,e2⟩:=hrow x (List.mem_of_getElem? g2)
  have:a=k:=hk.inj _ _ (by rw [←e1,g3])
  subst this
  exact .inr ⟨j,x,y,Qpy hn hm,by simpa using g1,by simpa using g2,g3,e2⟩
end
def mapT (P:Program)(T:TypeId):Option (TypeId×TypeId):=match P.underlying T with
 | some (.map k e)=>some (k,e)
 | _=>none
theorem Qkp {P:Program}{T k e:TypeId}(h:mapT P T=some (k,e)):P.underlying T=some (.map k e):=by
 unfold mapT at h
 split at h
 ·rename_i h';cases h;exact h'
 ·cases h
section
variable {P:Program}{C:Ctx}{σ:St}{o:Oper}
theorem Stp.makeMap {T d:Nat}(ho:o.op=.makeMap T none)(hd:o.dst=some d)(hn:Nat.ble (d+1) C.n=true)(hf:look σ.hp d=none):Stp P C o σ ((σ.set d (.map [])).put d (.map d)):=by
 refine Stp.val fun φ a w hr=>?_
 refine⟨.map (some w.heap.size),w.alloc (.map #[] 0),ext φ d ⟨w.heap.size,0,0,[],0⟩,?_,?_⟩
 ·simp [execOp,ho,Instr.makeMap]
 ·rw [hd]
  refine(hr.alloc (cap:=0) (z:=0) hf (C.slot hn) (ob:=.map []) (obj:=.map #[] 0) ⟨#[],0,heap_alloc_new w _,MapKept.stamped_empty 0,by simp,rfl,by simp,by simp⟩).put (QS hn) ?_
  exact .map d ⟨w.heap.size,0,0,[],0⟩ (QM _ _ _)
def QjD (P:Program)(T:TypeId)(z:V):Prop:=∃i x,P.info? T=some i∧i.zero=some x∧∀I w,Dat I w x z
theorem Stp.lookup {T d b K E:Nat}{x y:Operand}{κ α:Type}[DecidableEq κ]{e:κ→V}{val:κ→Value}{f:α→V}{l:List (κ×α)}{k:κ}{z:α}{v:V}(ho:o.op=.lookup T x y false)(hd:o.dst=some d)
  (hn:Nat.ble (d+1) C.n=true) (hx:σ.opd x=some (.map b)) (hb:look σ.hp b=some (.map (mapV e f l))) (hy:σ.opd y=some (e k)) (hT:mapT P T=some (K,E)) (hk:Qgb P K e val) (hz:QjD P E (f z))
  (hv:f ((mget l k).getD z)=v):Stp P C o σ (σ.put d v):=by
 refine Stp.same hd hn fun φ a w hr=>?_
 subst hv
 obtain⟨B,hB,he⟩:=(hr.opd hx).map_inv
 have hyv:a.eval y=val k:=hk.inv _ _ _ _ ((hr.opd hy).toDat (hk.edat k))
 obtain⟨D,hD,_⟩:=hk.d
 obtain⟨es,clock,h1,h2,h3,h4,h5,h6⟩:=Qdy.find hk hD (hr.block hB hb) k
 obtain⟨i,zx,hi,hzx,hzd⟩:=hz
 rcases h6 with⟨g1,g2,_⟩|⟨j,xx,v,g1,g2,g3,g4,g5⟩
 ·refine⟨zx,?_,by rw [g1];exact .dat (hzd _ _)⟩
  simp [execOp,ho,he,hyv,Instr.lookup,run_underlying (Qkp hT),MapKept.run_getObj_map h1,MapKept.run_checkKey hD h5,MapKept.run_findKey hD g2,zeroValue,typeInfo,hi,hzx]
 ·refine⟨xx.val,?_,by rw [g1];exact .dat g5⟩
  simp [execOp,ho,he,hyv,Instr.lookup,run_underlying (Qkp hT),MapKept.run_getObj_map h1,MapKept.run_checkKey hD h5,MapKept.run_findKey hD g2]
theorem Qhs {w:World}{r k:Nat}(o:Obj)(h:k≠r):(w.heap.setIfInBounds r o)[k]? = w.heap[k]? := by
 rw [Array.getElem?_setIfInBounds,if_neg (Ne.symm h)]
theorem Stp.mapUpdateI {T b K E:Nat}{x y u:Operand}{κ α:Type}[DecidableEq κ]{e:κ→V}{val:κ→Value}{f:α→V}{l:List (κ×α)}{k:κ}{v:α}(lt:κ→κ→Bool)(ho:o.op=.mapUpdate T x y u∨o.op=.insert T x y u)(hd:o.dst=none)
  (hx:σ.opd x=some (.map b)) (hb:look σ.hp b=some (.map (mapV e f l))) (hy:σ.opd y=some (e k)) (hu:σ.opd u=some (f v)) (hT:mapT P T=some (K,E)) (hk:Qgb P K e val) (hv:(f v).dat=true):
  Stp P C o σ (σ.set b (.map (mapV e f (mset lt l k v)))):=by
 refine Stp.skp fun φ a w hr=>?_
 obtain⟨B,hB,he⟩:=(hr.opd hx).map_inv
 have hyv:a.eval y=val k:=hk.inv _ _ _ _ ((hr.opd hy).toDat (hk.edat k))
 have huv:=(hr.opd hu).toDat hv
 obtain⟨D,hD,_⟩:=hk.d
 have hrep:=hr.block hB hb
 obtain⟨es,clock,h1,h2,h3,h4,h5,h6⟩:=Qdy.find hk hD hrep k
 obtain⟨es',clock',h1',_,_,_,r5,r6⟩:=hrep
 rw [h1]at h1';cases h1'
 have hlt:B.b<w.heap.size:=(hr.lt b B _ hB B.self).1
 have write:∀(es2:Array MapEntry) (clock2:Nat) (l2:List (κ×α)),MapKept.Stamped es2 clock2→(l2.map Prod.fst).Nodup→es2.size=l2.length→
   (∀x∈es2.toList,∃p∈l2,x.key=val p.1∧Dat (Imm C φ w) w x.val (f p.2))→(∀p∈l2,∃x∈es2.toList,x.key=val p.1∧Dat (Imm C φ w) w x.val (f p.2))→
   RR C φ (σ.set b (.map (mapV e f l2))) a { w with heap:=w.heap.setIfInBounds B.b (.map es2 clock2) }:=by
  intro es2 clock2 l2 a1 a2 a3 a4 a5
  have hI:∀k,Imm C φ w k→Imm C φ { w with heap:=w.heap.setIfInBounds B.b (.map es2 clock2) } k∧(w.heap.setIfInBounds B.b (.map es2 clock2))[k]? = w.heap[k]? := fun k hk'=>
   ⟨⟨by simpa using hk'.1,hk'.2⟩,Qhs _ fun e=>hk'.2.2 b B hB (.inl e)⟩
  refine hr.write hB rfl rfl rfl (by simp) (fun k hne=>Qhs _ hne) ⟨es2,clock2,by simp [hlt],a1,(Qnd hk.einj).2 a2,by rw [a3,mapV,List.length_map],fun x hx=>?_,fun p hp=>?_⟩
  ·obtain⟨p,hp,e1,e2⟩:=a4 x hx
   exact⟨_,List.mem_map.2 ⟨p,hp,rfl⟩,by rw [e1];exact hk.dat _ _ _,e2.mono hI⟩
  ·obtain⟨q,hq,rfl⟩:=List.mem_map.1 hp
   obtain⟨x,hx,e1,e2⟩:=a5 q hq
   exact⟨x,hx,by rw [e1];exact hk.dat _ _ _,e2.mono hI⟩
 have old1:∀x∈es.toList,∃p∈l,x.key=val p.1∧Dat (Imm C φ w) w x.val (f p.2):=fun x hx=>by
  obtain⟨p,hp,a1,a2⟩:=r5 x hx
  obtain⟨q,hq,rfl⟩:=List.mem_map.1 hp
  exact⟨q,hq,hk.inv _ _ _ _ a1,a2⟩
 have old2:∀p∈l,∃x∈es.toList,x.key=val p.1∧Dat (Imm C φ w) w x.val (f p.2):=fun p hp=>by
  obtain⟨x,hx,a1,a2⟩:=r6 _ (List.mem_map.2 ⟨p,hp,rfl⟩)
  exact⟨x,hx,hk.inv _ _ _ _ a1,a2⟩
 rcases h6 with⟨g1,g2,g3⟩|⟨j,xx,v0,g1,g2,g3,g4,g5⟩
 ·refine⟨{ w with heap:=w.heap.setIfInBounds B.b (.map (es.push { key:=val k,val:=a.eval u,born:=clock }) (clock+1)) },φ,?_,?_⟩
  ·rcases ho with ho | ho<;>simp [execOp,ho,he,hyv,Instr.mapUpdate,run_underlying (Qkp hT),MapKept.run_getObj_map h1,MapKept.run_checkKey hD h5,MapKept.run_findKey hD g2,MapKept.run_setObj_map _ h1]
  ·rw [hd]
   have hms:mset lt l k v=mins lt l k v:=by unfold mset;rw [g1]
   have hmem:∀p,p∈mins lt l k v↔p=(k,v)∨p∈l:=fun p=>by rw [(Qoa lt l k v).mem_iff,List.mem_cons]
   rw [hms]
   refine write _ _ _ (MapKept.stamped_push h2 g3) (by rw [←hms];exact QsX lt h3) (by rw [(Qoa lt l k v).length_eq];simp [h4]) (fun x hx=>?_) (fun p hp=>?_)
   ·simp only [Array.toList_push,List.mem_append,List.mem_singleton]at hx
    rcases hx with hx | rfl
    ·obtain⟨p,hp,e1,e2⟩:=old1 x hx;exact⟨p,(hmem p).2 (.inr hp),e1,e2⟩
    ·exact⟨(k,v),(hmem _).2 (.inl rfl),rfl,huv⟩
   ·rcases(hmem p).1 hp with rfl | hp
    ·exact⟨{ key:=val k,val:=a.eval u,born:=clock },by simp,rfl,huv⟩
    ·obtain⟨x,hx,e1,e2⟩:=old2 p hp;exact⟨x,by simp only [Array.toList_push,List.mem_append];exact .inl hx,e1,e2⟩
 ·refine⟨{ w with heap:=w.heap.setIfInBounds B.b (.map (es.modify j fun x=>{ x with key:=val k,val:=a.eval u }) clock) },φ,?_,?_⟩
  ·rcases ho with ho | ho<;>simp [execOp,ho,he,hyv,Instr.mapUpdate,run_underlying (Qkp hT),MapKept.run_getObj_map h1,MapKept.run_checkKey hD h5,MapKept.run_findKey hD g2,MapKept.run_setObj_map _ h1,g3,g4,MapKept.run_keyThatStays h5]
  ·rw [hd]
   have hms:mset lt l k v=mrep l k v:=by unfold mset;rw [g1]
   have hmem:=Quh h3 ⟨v0,QpD g1⟩ (v:=v)
   have hlen:(mrep l k v).length=l.length:=by have:=congrArg List.length (QpE l k v);simpa using this
   have hjlt:j<es.size:=(Array.getElem?_eq_some_iff.1 g3).1
   have hmod:∀i:Nat,(es.modify j fun x=>{ x with key:=val k,val:=a.eval u })[i]? = if i=j then some { xx with key:=val k,val:=a.eval u }else es[i]? := fun i=>by
    rw [Array.getElem?_modify]
    by_cases hij:j=i
    ·subst hij;simp [g3]
    ·rw [if_neg hij,if_neg (Ne.symm hij)]
   have hkeyj:∀i x,es[i]? = some x→x.key=val k→i=j:=fun i x hx hxk=>by
    have hnd:=h2.2.2
    have i1:(es.toList.map (·.key))[i]? = some (val k):=by simp [List.getElem?_map,hx,hxk]
    have i2:(es.toList.map (·.key))[j]? = some (val k):=by simp [List.getElem?_map,g3,g4]
    exact(List.getElem?_inj (by simpa using (Array.getElem?_eq_some_iff.1 hx).1) hnd).1 (i1.trans i2.symm)
   rw [hms]
   refine write _ _ _ (MapKept.stamped_modify h2 _ _ (fun _ _=>rfl) fun x _ hx=>by rw [g3]at hx;cases hx;exact g4.symm) (by rw [QpE];exact h3) (by rw [Array.size_modify,h4,hlen]) (fun x hx=>?_) (fun p hp=>?_)
   ·obtain⟨i,hi⟩:=List.mem_iff_getElem?.1 hx
    rw [Array.getElem?_toList,hmod]at hi
    split at hi
    ·cases hi;exact⟨(k,v),(hmem _).2 (.inl rfl),rfl,huv⟩
    ·rename_i hne
     obtain⟨p,hp,e1,e2⟩:=old1 x (by rw [List.mem_iff_getElem?];exact⟨i,by simpa using hi⟩)
     exact⟨p,(hmem p).2 (.inr ⟨hp,fun e=>hne (hkeyj i x hi (by rw [e1,e]))⟩),e1,e2⟩
   ·rcases(hmem p).1 hp with rfl | ⟨hp,hne⟩
    ·exact⟨_,List.mem_iff_getElem?.2 ⟨j,by rw [Array.getElem?_toList,hmod,if_pos rfl]⟩,rfl,huv⟩
    ·obtain⟨x,hx,e1,e2⟩:=old2 p hp
     obtain⟨i,hi⟩:=List.mem_iff_getElem?.1 hx
     refine⟨x,List.mem_iff_getElem?.2 ⟨i,?_⟩,e1,e2⟩
     have hij:i≠j:=fun e=>by
      subst e
      rw [Array.getElem?_toList,g3]at hi;cases hi
      exact hne (hk.inj _ _ (by rw [←e1,g4]))
     rw [Array.getElem?_toList,hmod,if_neg hij,←Array.getElem?_toList];exact hi
theorem Stp.mapUpdate {T b K E:Nat}{x y u:Operand}{κ α:Type}[DecidableEq κ]{e:κ→V}{val:κ→Value}{f:α→V}{l:List (κ×α)}{k:κ}{v:α}(lt:κ→κ→Bool)(ho:o.op=.mapUpdate T x y u)(hd:o.dst=none)
  (hx:σ.opd x=some (.map b)) (hb:look σ.hp b=some (.map (mapV e f l))) (hy:σ.opd y=some (e k)) (hu:σ.opd u=some (f v)) (hT:mapT P T=some (K,E)) (hk:Qgb P K e val) (hv:(f v).dat=true):
  Stp P C o σ (σ.set b (.map (mapV e f (mset lt l k v)))):=
 Stp.mapUpdateI lt (.inl ho) hd hx hb hy hu hT hk hv
theorem Stp.insert {T b K E:Nat}{x y u:Operand}{κ α:Type}[DecidableEq κ]{e:κ→V}{val:κ→Value}{f:α→V}{l:List (κ×α)}{k:κ}{v:α}(lt:κ→κ→Bool)(ho:o.op=.insert T x y u)(hd:o.dst=none)
  (hx:σ.opd x=some (.map b)) (hb:look σ.hp b=some (.map (mapV e f l))) (hy:σ.opd y=some (e k)) (hu:σ.opd u=some (f v)) (hT:mapT P T=some (K,E)) (hk:Qgb P K e val) (hv:(f v).dat=true):
  Stp P C o σ (σ.set b (.map (mapV e f (mset lt l k v)))):=
 Stp.mapUpdateI lt (.inr ho) hd hx hb hy hu hT hk hv
end
end Go.Vm
