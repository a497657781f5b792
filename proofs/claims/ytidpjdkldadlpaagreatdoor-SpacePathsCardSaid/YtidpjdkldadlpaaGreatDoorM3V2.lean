/- A part of the proof; what it holds is told at each theorem. -/
import Derived.Test.YtidpjdkldadlpaaGreatDoorM3V1
set_option linter.unusedVariables false
set_option linter.unusedSimpArgs false
set_option linter.unusedSectionVars false
set_option linter.deprecated false
namespace Go.Vm
open Go Go.RowKit
section
variable {P:Program}{C:Ctx}{σ:St}{o:Oper}
theorem QbN.fn {f:FuncId}{ags:Array Operand}{ts:Array TypeId}{vs:List V}(ho:o.op=.call { callee:=.value (.func f),args:=ags,argTypes:=ts })(he:Qq4 P f=true)(ha:σ.opsV ags.toList=some vs):
  QbN P C o σ f vs:=by
 intro φ a w hr
 obtain⟨h1,h2⟩:=hr.opsV _ _ ha
 refine⟨ags.toList.map a.eval,?_,by simpa using h1,fun j x v hx hv=>?_⟩
 ·have e2:ags.map a.eval=(ags.toList.map a.eval).toArray:=by apply Array.ext';simp
  simp only [execOp,ho,resolve,Sem.run_bind,show a.eval (.func f)=.func (.func f) #[] #[]from rfl,Deferred.ofValue,Sem.run_pure,Result.andThen_ok,invoke,Array.empty_append,Array.append_empty,e2]
  exact QhD (P:=P) (w:=w) (f:=f) (args:=(ags.toList.map a.eval).toArray) he
 simp only [Qau,Qaq]at hx
 obtain⟨y,hy,rfl⟩:=hx
 exact h2 j y v hy hv
theorem QbN.clo {f:FuncId}{x:Operand}{ags:Array Operand}{ts:Array TypeId}{vs fs cs:List V}(ho:o.op=.call { callee:=.value x,args:=ags,argTypes:=ts })(hx:σ.opd x=some (.clo (.func f) fs cs))
  (he:Qq4 P f=true) (ha:σ.opsV ags.toList=some vs):QbN P C o σ f (fs++(vs++cs)):=by
 intro φ a w hr
 obtain⟨h1,h2⟩:=hr.opsV _ _ ha
 obtain⟨xs,ys,hev,e1,e2,e3,e4⟩:=(hr.opd hx).clo_inv
 have h1':ags.size=vs.length:=by simpa using h1
 refine⟨xs.toList++(ags.toList.map a.eval++ys.toList),?_,by simp;omega,fun j y v hy hv=>?_⟩
 ·have e5:(xs++ags.map a.eval)++ys=(xs.toList++(ags.toList.map a.eval++ys.toList)).toArray:=by apply Array.ext';simp
  simp only [execOp,ho,resolve,Sem.run_bind,hev,Deferred.ofValue,Sem.run_pure,Result.andThen_ok,invoke,e5]
  exact QhD (P:=P) (w:=w) (f:=f) (args:=_) he
 by_cases c1:j<fs.length
 ·rw [Qbu (by simpa using (by omega:j<xs.size))]at hy
  rw [Qbu c1]at hv
  exact e3 j y v (by simpa using hy) hv
 rw [QcJ (by simp;omega)]at hy
 rw [QcJ (by omega)]at hv
 simp only [Array.length_toList]at hy
 rw [e1]at hy
 by_cases c2:j-fs.length<vs.length
 ·rw [Qbu (by simp;simp at h1;omega)]at hy
  rw [Qbu c2]at hv
  simp only [Qau,Qaq]at hy
  obtain⟨z,hz,rfl⟩:=hy
  exact h2 _ z v hz hv
 have hl:(ags.toList.map a.eval).length=vs.length:=by simpa using h1
 rw [QcJ (by omega),hl]at hy
 rw [QcJ (by omega)]at hv
 exact e4 _ y v (by simpa using hy) hv
def Qmq (P:Program)(t:TypeId)(name:String):Option (FuncId×Bool):=match P.info? t with
 | some i=>match i.methods.find? (·.name==name)with
  | some m=>bif m.path.isEmpty then m.func else none
  | none=>none
 | none=>none
def QyF (P:Program)(t:TypeId):Bool:=match P.underlying t with
 | some (.pointer _)=>true
 | _=>false
def QtB (P:Program)(t:TypeId):Bool:=match P.underlying t with
 | some (.pointer _)=>false
 | some _=>true
 | none=>false
theorem Qsg {t:TypeId}{name:String}{f:FuncId}{p:Bool}{n:Nat}{v r:Value}{w:World}(h:Qmq P t name=some (f,p))
  (hr:(receiverAt t (.val v) p (some ((name.splitOn ".").getLastD name))).run P w=.ok r w):(method (n+1) t v name).run P w=.ok (f,r) w:=by
 unfold Qmq at h
 split at h
 ·rename_i i hi
  split at h
  ·rename_i m hm
   cases hp:m.path.isEmpty with
   | false=>rw [hp]at h;cases h
   | true=>
    rw [hp]at h
    simp only [cond_true]at h
    have hpl:m.path.toList=[]:=by simpa using hp
    simp only [method,typeInfo,Sem.run_bind,Sem.run_pure,run_program,Result.andThen_ok,hi,hm,hpl,follow,h,hp,if_true,hr]
  cases h
 cases h
theorem Qxd {t:TypeId}{v:Value}{wr:Option String}{w:World}(h:QyF P t=true):(receiverAt t (.val v) true wr).run P w=.ok v w:=by
 unfold QyF at h
 split at h
 ·rename_i e he
  simp [receiverAt,run_underlying he,Place.get]
 cases h
theorem Qxe {t:TypeId}{v:Value}{wr:Option String}{w:World}(h:QtB P t=true):(receiverAt t (.val v) false wr).run P w=.ok v w:=by
 unfold QtB at h
 split at h
 ·cases h
 ·rename_i d hd he
  cases d<;>first | exact(hd _ rfl).elim | simp [receiverAt,run_underlying he,Place.get]
 cases h
def Qwj (P:Program)(t e:TypeId):Bool:=match P.underlying t with
 | some (.pointer e')=>Nat.beq e' e
 | _=>false
theorem Qwk {t e:TypeId}{p:Addr}{m:String}{w:World}{y:Value}(h:Qwj P t e=true)(hl:(loadVar e p).run P w=.ok y w):(receiverAt t (.val (.pointer (some p))) false (some m)).run P w=.ok y w:=by
 unfold Qwj at h
 split at h
 ·rename_i e' he
  have:=QaF h
  subst this
  have hs:(Builtin.ssaWrapNilChk_ #[t] t #[.pointer (some p),strVal "",strVal m]).run P w=.ok (.pointer (some p)) w:=rfl
  simp [receiverAt,run_underlying he,Place.get,hs,asAddr,hl]
 cases h
theorem QbN.meth {f:FuncId}{x:Operand}{name:String}{ags:Array Operand}{ts:Array TypeId}{t:TypeId}{vs:List V}{u r:V}(ho:o.op=.call { callee:=.invoke x name,args:=ags,argTypes:=ts })
  (hx:σ.opd x=some (.ifc t u)) (hm:(Qmq P t name=some (f,true)∧QyF P t=true)∨(Qmq P t name=some (f,false)∧QtB P t=true)) (he:Qq4 P f=true) (ha:σ.opsV ags.toList=some vs):
  QbN P C o σ f (u::vs):=by
 intro φ a w hr
 obtain⟨h1,h2⟩:=hr.opsV _ _ ha
 obtain⟨y,hev,hy⟩:=(hr.opd hx).ifc_inv
 refine⟨y::ags.toList.map a.eval,?_,by simpa using h1,fun j z v hz hv=>?_⟩
 ·have hmeth:(method (P.types.size+Made.depth) t y name).run P w=.ok (f,y) w:=by
   have hd:P.types.size+Made.depth=(P.types.size+(Made.depth-1))+1:=by have:Made.depth=(Made.depth-1)+1:=rfl;omega
   rw [hd]
   rcases hm with⟨h,hp⟩|⟨h,hp⟩
   ·exact Qsg h (Qxd hp)
   exact Qsg h (Qxe hp)
  have e2:#[y]++ags.map a.eval=(y::ags.toList.map a.eval).toArray:=by apply Array.ext';simp
  have e3:(#[Value.iface t y]++ags.map a.eval)[0]? = some (.iface t y):=by rw [Array.getElem?_append_left (by simp)];rfl
  have e4:(#[Value.iface t y]++ags.map a.eval).extract 1 (#[Value.iface t y]++ags.map a.eval).size=ags.map a.eval:=by
   apply Array.ext';simp [QdH]
  simp only [execOp,ho,resolve,Sem.run_bind,hev,Sem.run_pure,Result.andThen_ok,invoke,e3,e4,callMethod,run_program,hmeth,e2]
  exact QhD (P:=P) (w:=w) (f:=f) (args:=_) he
 cases j with
 | zero=>simp at hz hv;subst hz;subst hv;exact hy
 | succ j=>
  simp only [Qr2,Qau,Qaq]at hz hv
  obtain⟨y',hy',rfl⟩:=hz
  exact h2 j y' v hy' hv
theorem QbN.methV {f:FuncId}{x:Operand}{name:String}{ags:Array Operand}{ts:Array TypeId}{t e:TypeId}{vs:List V}{b:Nat}{r:V}(ho:o.op=.call { callee:=.invoke x name,args:=ags,argTypes:=ts })
  (hx:σ.opd x=some (.ifc t (.loc b 0 0))) (hm:Qmq P t name=some (f,false)) (hp:Qwj P t e=true) (hg:Qg0 P e=some false) (hb:look σ.hp b=some (.var [r])) (he:Qq4 P f=true)
  (ha:σ.opsV ags.toList=some vs):QbN P C o σ f (r::vs):=by
 intro φ a w hr
 obtain⟨h1,h2⟩:=hr.opsV _ _ ha
 obtain⟨y,hev,hy⟩:=(hr.opd hx).ifc_inv
 obtain⟨B,hB,rfl⟩:=hy.loc_inv
 obtain⟨xs,E,e1,e2,e0,e3⟩:=hr.block hB hb
 have hlt:0<xs.size:=by rw [e2];simp
 have hload:(loadVar e ⟨B.b,B.off+(0*B.z+0),none⟩).run P w=.ok xs[0] w:=by
  have:=Qlk (P:=P) (T:=e) (w:=w) (p:=⟨B.b,B.off+(0*B.z+0),none⟩) (x:=xs[0]) hg (by simp [World.cell?,e1,hlt,e0])
  simpa only [Instr.loadAt,Instr.sureAddr,Sem.run_bind,Sem.run_pure,Result.andThen_ok] using this
 refine⟨xs[0]::ags.toList.map a.eval,?_,by simpa using h1,fun j z v hz hv=>?_⟩
 ·have hmeth:(method (P.types.size+Made.depth) t (.pointer (some ⟨B.b,B.off+(0*B.z+0),none⟩)) name).run P w=.ok (f,xs[0]) w:=by
   have hd:P.types.size+Made.depth=(P.types.size+(Made.depth-1))+1:=by have:Made.depth=(Made.depth-1)+1:=rfl;omega
   rw [hd]
   exact Qsg hm (Qwk hp hload)
  have e2:#[xs[0]]++ags.map a.eval=(xs[0]::ags.toList.map a.eval).toArray:=by apply Array.ext';simp
  have e3:(#[Value.iface t (.pointer (some ⟨B.b,B.off+(0*B.z+0),none⟩))]++ags.map a.eval)[0]? = some (.iface t (.pointer (some ⟨B.b,B.off+(0*B.z+0),none⟩))):=by rw [Array.getElem?_append_left (by simp)];rfl
  have e4:(#[Value.iface t (.pointer (some ⟨B.b,B.off+(0*B.z+0),none⟩))]++ags.map a.eval).extract 1 (#[Value.iface t (.pointer (some ⟨B.b,B.off+(0*B.z+0),none⟩))]++ags.map a.eval).size=ags.map a.eval:=by
   apply Array.ext';simp [QdH]
  simp only [execOp,ho,resolve,Sem.run_bind,hev,Sem.run_pure,Result.andThen_ok,invoke,e3,e4,callMethod,run_program,hmeth,e2]
  exact QhD (P:=P) (w:=w) (f:=f) (args:=_) he
 cases j with
 | zero=>simp at hz hv;subst hz;subst hv;exact e3 0 _ _ (QfW hlt) rfl
 | succ j=>
  simp only [Qr2,Qau,Qaq]at hz hv
  obtain⟨y',hy',rfl⟩:=hz
  exact h2 j y' v hy' hv
def Gives (r:V)(outs:List (Nat×Ob))(v:V)(hs:List (Nat×Ob)):Prop:=v=r∧∀c ob,look outs c=some ob→look hs c=some ob
theorem Stp.callM {f:FuncId}{d:Nat}{g:Bool}{M N:List (Nat×Nat)}{dead:List Nat}{hsC outs hsN:List (Nat×Ob)}{vs us:List V}{r r':V}(hE:QbN P C o σ f vs)(hd:o.dst=some d)(hn:Nat.ble (d+1) C.n=true)(hpg:C.pg P)
  (hnm:QdL σ M N dead outs=true) (hnd:(M.map Prod.fst).Nodup)
  (hv:Vws σ.hp g false (Qfd M) (fun a b=>look M b=some a) vs us) (hobs:Qk7 σ.hp g false (Qfd M) (fun a b=>look M b=some a) σ.hp M hsC)
  (hc:Qc P f us hsC (Gives r outs)) (hback:Qk7 [] false g [] (fun c b=>look N b=some c) outs N hsN) (hr':Vw [] false g [] (fun c b=>look N b=some c) r r'):
  Stp P C o σ ((σ.after dead hsN).put d r'):=by
 intro a w ⟨φ,hr⟩ next Q hnext
 have hN:=Names.of hnm hnd
 refine⟨fun _ _=>trivial,?_⟩
 obtain⟨vals,hex,h1,h2⟩:=hE φ a w hr
 rw [Quy hex,Oper.uponIn_enter]
 refine⟨(fun h=>by cases h),Qrm ((hc _ _ w _ (Ins.of_vals hr h1 h2 hN.injM hN.param hv hobs) ((hr.glob hpg).mono fun _ h=>.inl h)).mono ?_)⟩
 rintro e w' ⟨x,v,hs',φ',rfl,⟨rfl,hso⟩,hout⟩
 obtain⟨h3,h4⟩:=hr.after hN hout hso (fun c s h=>by
  obtain⟨ob',e1⟩:=hobs.get.2 c s h
  obtain⟨s',ob,e2,e3,_⟩:=hobs.get.1 c ob' e1
  rw [h]at e2;cases e2;exact⟨ob,e3⟩) hback
 refine hnext _ _ ⟨Qk8 φ M N dead φ',?_⟩
 rw [hd]
 exact h3.put (Qab hn) (h4 hr')
end
end Go.Vm
namespace Go.Vm
open Go Go.RowKit
section
variable {κ α β:Type}[DecidableEq κ]
def Qv : List (κ×α)→κ→Option α
 | [],_=>none
 | (a,x)::r,k=>if a=k then some x else Qv r k
def Qg1 (lt:κ→κ→Bool):List (κ×α)→κ→α→List (κ×α)
 | [],k,v=>[(k,v)]
 | (a,x)::r,k,v=>if lt k a=true then(k,v)::(a,x)::r else(a,x)::Qg1 lt r k v
def QhF : List (κ×α)→κ→α→List (κ×α)
 | [],_,_=>[]
 | (a,x)::r,k,v=>if a=k then(k,v)::r else(a,x)::QhF r k v
def Qag (lt:κ→κ→Bool)(l:List (κ×α))(k:κ)(v:α):List (κ×α):=match Qv l k with
 | some _=>QhF l k v
 | none=>Qg1 lt l k v
theorem Qsh : ∀{l:List (κ×α)} {k:κ} {v:α},Qv l k=some v→(k,v)∈l:=by
 intro l
 induction l with
 | nil=>intro k v h;cases h
 | cons p l ih=>
  intro k v h
  obtain⟨a,x⟩:=p
  rw [Qv]at h
  split at h
  ·rename_i e;subst e;cases h;exact Qaz
  exact QaC _ (ih h)
theorem Qll : ∀{l:List (κ×α)} {k:κ} {v:α},(l.map Prod.fst).Nodup→(k,v)∈l→Qv l k=some v:=by
 intro l
 induction l with
 | nil=>intro k v _ h;cases h
 | cons p l ih=>
  intro k v hn h
  obtain⟨a,x⟩:=p
  rw [QeA,Qft]at hn
  rw [Qv]
  rcases QaP.1 h with h | h
  ·cases h;simp
  have:a≠k:=fun e=>hn.1 (by rw [show(a,x).1=k from e];exact QaQ.2 ⟨(k,v),h,rfl⟩)
  rw [if_neg this];exact ih hn.2 h
theorem QA8 : ∀{l:List (κ×α)} {k:κ},Qv l k=none→∀p∈l,p.1≠k:=by
 intro l
 induction l with
 | nil=>intro k _ p h;cases h
 | cons q l ih=>
  intro k h p hp
  obtain⟨a,x⟩:=q
  rw [Qv]at h
  split at h
  ·cases h
  rename_i hne
  rcases QaP.1 hp with e | hp
  ·subst e;exact hne
  exact ih h p hp
theorem QnS (lt:κ→κ→Bool):∀(l:List (κ×α)) (k:κ) (v:α),(Qg1 lt l k v).Perm ((k,v)::l):=by
 intro l
 induction l with
 | nil=>intro k v;exact .refl _
 | cons p l ih=>
  intro k v
  obtain⟨a,x⟩:=p
  rw [Qg1]
  split
  ·exact .refl _
  exact((ih k v).cons (a,x)).trans (.swap _ _ _)
theorem Qsi : ∀(l:List (κ×α)) (k:κ) (v:α),(QhF l k v).map Prod.fst=l.map Prod.fst:=by
 intro l
 induction l with
 | nil=>intro k v;rfl
 | cons p l ih=>
  intro k v
  obtain⟨a,x⟩:=p
  rw [QhF]
  split
  ·rename_i e;subst e;rfl
  rw [QeA,QeA,ih]
theorem QyG : ∀{l:List (κ×α)} {k:κ} {v:α},(l.map Prod.fst).Nodup→(∃x,(k,x)∈l)→∀p,p∈QhF l k v↔p=(k,v)∨(p∈l∧p.1≠k):=by
 intro l
 induction l with
 | nil=>intro k v _ ⟨x,h⟩;cases h
 | cons q l ih=>
  intro k v hn ⟨x,hx⟩ p
  obtain⟨a,y⟩:=q
  rw [QeA,Qft]at hn
  rw [QhF]
  split
  ·rename_i e
   subst e
   have hno:∀p∈l,p.1≠a:=fun p hp e=>hn.1 (QaQ.2 ⟨p,hp,e⟩)
   constructor
   ·intro h
    rcases QaP.1 h with h | h
    ·exact .inl h
    exact .inr ⟨QaC _ h,hno p h⟩
   rintro (h | ⟨h,h'⟩)
   ·rw [h];exact Qaz
   rcases QaP.1 h with h | h
   ·subst h;exact absurd rfl h'
   exact QaC _ h
  rename_i hne
  have hx':(k,x)∈l:=by
   rcases QaP.1 hx with h | h
   ·cases h;exact absurd rfl hne
   exact h
  have:=ih hn.2 ⟨x,hx'⟩ (v:=v) p
  rw [QaP,this,QaP]
  constructor
  ·rintro (h | h | h)
   ·subst h;exact .inr ⟨.inl rfl,hne⟩
   ·exact .inl h
   exact .inr ⟨.inr h.1,h.2⟩
  rintro (h | ⟨h | h,h'⟩)
  ·exact .inr (.inl h)
  ·exact .inl h
  exact .inr (.inr ⟨h,h'⟩)
theorem Qsj (lt:κ→κ→Bool){l:List (κ×α)}{k:κ}{v:α}(h:(l.map Prod.fst).Nodup):((Qag lt l k v).map Prod.fst).Nodup:=by
 unfold Qag
 split
 ·rw [Qsi];exact h
 rename_i hn
 refine(((QnS lt l k v).map Prod.fst).nodup_iff).2 ?_
 rw [QeA,Qft]
 refine⟨fun hm=>?_,h⟩
 obtain⟨p,hp,e⟩:=QaQ.1 hm
 exact QA8 hn p hp e
end
def QA {κ α:Type}(e:κ→V)(f:α→V)(l:List (κ×α)):List (V×V):=l.map fun p=>(e p.1,f p.2)
structure Qdv (P:Program) (K:TypeId) {κ:Type} (e:κ→V) (val:κ→Value):Prop where
 d:∃D,P.underlying K=some D∧∀k,MapKept.IsKey D (val k)
 inv:∀I w x k,Dat I w x (e k)→x=val k
 dat:∀I w k,Dat I w (val k) (e k)
 edat:∀k,(e k).dat=true
 inj:∀a b,val a=val b→a=b
 einj:∀a b,e a=e b→a=b
def QD1 (P:Program)(K:TypeId)(kk:IntKind):Bool:=match P.underlying K with
 | some (.int k)=>decide (k=kk)
 | _=>false
theorem Qdv.int {P:Program}{K:TypeId}{kk:IntKind}(h:QD1 P K kk=true):Qdv P K (V.i kk) (Value.int kk):=by
 unfold QD1 at h
 split at h
 ·rename_i k hk
  have:=Q9 h
  subst this
  refine⟨⟨_,hk,fun _=>rfl⟩,fun I w x k h=>by cases h;rfl,fun I w k=>.i _ _,fun _=>rfl,fun a b h=>by cases h;rfl,fun a b h=>by cases h;rfl⟩
 cases h
theorem Qdv.str {P:Program}{K:TypeId}(h:Qr9 P K=true):Qdv P K V.s Value.string:=
 ⟨⟨_,Qo8 h,fun _=>trivial⟩,fun I w x k h=>by cases h;rfl,fun I w k=>.s _,fun _=>rfl,fun a b h=>by cases h;rfl,fun a b h=>by cases h;rfl⟩
section
variable {P:Program}{K:TypeId}{κ α:Type}[DecidableEq κ]{e:κ→V}{val:κ→Value}{f:α→V}{I:Nat→Prop}{w:World}{B:Blk}{l:List (κ×α)}
theorem QoP (he:∀a b,e a=e b→a=b):((QA e f l).map Prod.fst).Nodup↔(l.map Prod.fst).Nodup:=by
 have:(QA e f l).map Prod.fst=(l.map Prod.fst).map e:=by simp [QA]
 rw [this]
 constructor
 ·intro h;exact(QoJ.1 h).imp fun hab e'=>hab (by rw [e'])
 intro h;exact QoJ.2 (h.imp fun hab e'=>hab (he _ _ e'))
theorem Qdn.find (hk:Qdv P K e val){D:TypeDesc}(hD:P.underlying K=some D)(h:Qdn I w B (QA e f l))(k:κ):∃es clock,w.heap[B.b]? = some (.map es clock)∧MapKept.Stamped es clock∧(l.map Prod.fst).Nodup∧
  es.size=l.length∧MapKept.IsKey D (val k)∧
  ((Qv l k=none∧Instr.findNow D (val k) es.toList 0=some none∧∀x∈es.toList,x.key≠val k)∨
   ∃j x v,Qv l k=some v∧Instr.findNow D (val k) es.toList 0=some (some (j,x.val))∧es[j]? = some x∧x.key=val k∧Dat I w x.val (f v)):=by
 obtain⟨es,clock,h1,h2,h3,h4,h5,h6⟩:=h
 obtain⟨D',hD',hK⟩:=hk.d
 rw [hD]at hD';cases hD'
 have hn:=(QoP hk.einj).1 h3
 have hrow:∀x∈es.toList,∃a y,(a,y)∈l∧x.key=val a∧Dat I w x.val (f y):=fun x hx=>by
  obtain⟨p,hp,a1,a2⟩:=h5 x hx
  obtain⟨q,hq,rfl⟩:=QaQ.1 hp
  exact⟨q.1,q.2,hq,hk.inv _ _ _ _ a1,a2⟩
 have hks:∀x∈es.toList,MapKept.IsKey D x.key:=fun x hx=>by obtain⟨a,y,_,e1,_⟩:=hrow x hx;rw [e1];exact hK a
 refine⟨es,clock,h1,h2,hn,by rw [h4,QA,QgG],hK k,?_⟩
 rcases MapKept.findNow_spec (hK k) es.toList 0 hks with⟨g1,g2⟩|⟨j,x,g1,g2,g3⟩
 ·refine .inl ⟨?_,g1,g2⟩
  cases hg:Qv l k with
  | none=>rfl
  | some v=>
   obtain⟨x,hx,a1,_⟩:=h6 (e k,f v) (QaQ.2 ⟨(k,v),Qsh hg,rfl⟩)
   exact absurd (hk.inv _ _ _ _ a1) (g2 x hx)
 obtain⟨a,y,hm,e1,e2⟩:=hrow x (Qan g2)
 have:a=k:=hk.inj _ _ (by rw [←e1,g3])
 subst this
 exact .inr ⟨j,x,y,Qll hn hm,by simpa using g1,by simpa using g2,g3,e2⟩
end
def Qi7 (P:Program)(T:TypeId):Option (TypeId×TypeId):=match P.underlying T with
 | some (.map k e)=>some (k,e)
 | _=>none
theorem Qff {P:Program}{T k e:TypeId}(h:Qi7 P T=some (k,e)):P.underlying T=some (.map k e):=by
 unfold Qi7 at h
 split at h
 ·rename_i h';cases h;exact h'
 cases h
section
variable {P:Program}{C:Ctx}{σ:St}{o:Oper}
theorem Stp.makeMap {T d:Nat}(ho:o.op=.makeMap T none)(hd:o.dst=some d)(hn:Nat.ble (d+1) C.n=true)(hf:look σ.hp d=none):Stp P C o σ ((σ.set d (.map [])).put d (.map d)):=by
 refine Stp.val fun φ a w hr=>?_
 refine⟨.map (some w.heap.size),w.alloc (.map #[] 0),ext φ d ⟨w.heap.size,0,0,[],0⟩,?_,?_⟩
 ·simp [execOp,ho,Instr.makeMap]
 rw [hd]
 refine(hr.alloc (cap:=0) (z:=0) hf (C.slot hn) (ob:=.map []) (obj:=.map #[] 0) ⟨#[],0,heap_alloc_new w _,MapKept.stamped_empty 0,by simp,rfl,by simp,by simp⟩).put (Qab hn) ?_
 exact .map d ⟨w.heap.size,0,0,[],0⟩ (QQ _ _ _)
def QiQ (P:Program)(T:TypeId)(z:V):Prop:=∃i x,P.info? T=some i∧i.zero=some x∧∀I w,Dat I w x z
theorem Stp.lookup {T d b K E:Nat}{x y:Operand}{κ α:Type}[DecidableEq κ]{e:κ→V}{val:κ→Value}{f:α→V}{l:List (κ×α)}{k:κ}{z:α}{v:V}(ho:o.op=.lookup T x y false)(hd:o.dst=some d)
  (hn:Nat.ble (d+1) C.n=true) (hx:σ.opd x=some (.map b)) (hb:look σ.hp b=some (.map (QA e f l))) (hy:σ.opd y=some (e k)) (hT:Qi7 P T=some (K,E)) (hk:Qdv P K e val) (hz:QiQ P E (f z))
  (hv:f ((Qv l k).getD z)=v):Stp P C o σ (σ.put d v):=by
 refine Stp.same hd hn fun φ a w hr=>?_
 subst hv
 obtain⟨B,hB,he⟩:=(hr.opd hx).map_inv
 have hyv:a.eval y=val k:=hk.inv _ _ _ _ ((hr.opd hy).toDat (hk.edat k))
 obtain⟨D,hD,_⟩:=hk.d
 obtain⟨es,clock,h1,h2,h3,h4,h5,h6⟩:=Qdn.find hk hD (hr.block hB hb) k
 obtain⟨i,zx,hi,hzx,hzd⟩:=hz
 rcases h6 with⟨g1,g2,_⟩|⟨j,xx,v,g1,g2,g3,g4,g5⟩
 ·refine⟨zx,?_,by rw [g1];exact .dat (hzd _ _)⟩
  simp [execOp,ho,he,hyv,Instr.lookup,run_underlying (Qff hT),MapKept.run_getObj_map h1,MapKept.run_checkKey hD h5,MapKept.run_findKey hD g2,zeroValue,typeInfo,hi,hzx]
 refine⟨xx.val,?_,by rw [g1];exact .dat g5⟩
 simp [execOp,ho,he,hyv,Instr.lookup,run_underlying (Qff hT),MapKept.run_getObj_map h1,MapKept.run_checkKey hD h5,MapKept.run_findKey hD g2]
theorem Stp.lookupOk {T d b K E:Nat}{x y:Operand}{κ α:Type}[DecidableEq κ]{e:κ→V}{val:κ→Value}{f:α→V}{l:List (κ×α)}{k:κ}{z:α}{v:V}{t:Bool}(ho:o.op=.lookup T x y true)(hd:o.dst=some d)
  (hn:Nat.ble (d+1) C.n=true) (hx:σ.opd x=some (.map b)) (hb:look σ.hp b=some (.map (QA e f l))) (hy:σ.opd y=some (e k)) (hT:Qi7 P T=some (K,E)) (hk:Qdv P K e val) (hz:QiQ P E (f z))
  (hv:f ((Qv l k).getD z)=v) (ht:(Qv l k).isSome=t):Stp P C o σ (σ.put d (.tup [v,.b t])):=by
 refine Stp.same hd hn fun φ a w hr=>?_
 subst hv ht
 obtain⟨B,hB,he⟩:=(hr.opd hx).map_inv
 have hyv:a.eval y=val k:=hk.inv _ _ _ _ ((hr.opd hy).toDat (hk.edat k))
 obtain⟨D,hD,_⟩:=hk.d
 obtain⟨es,clock,h1,h2,h3,h4,h5,h6⟩:=Qdn.find hk hD (hr.block hB hb) k
 obtain⟨i,zx,hi,hzx,hzd⟩:=hz
 have two:∀{x:Value} {u:V} {t:Bool},Dat (Imm C φ w) w x u→Rep φ (Imm C φ w) w (.tuple #[x,.bool t]) (.tup [u,.b t]):=fun {x u t} hD=>
  .dat (.tup _ _ rfl fun j x' u' hx hu=>by
   match j with
   | 0=>simp at hx hu;subst hx;subst hu;exact hD
   | 1=>simp at hx hu;subst hx;subst hu;exact .b _
   | j+2=>simp at hx)
 rcases h6 with⟨g1,g2,_⟩|⟨j,xx,v,g1,g2,g3,g4,g5⟩
 ·refine⟨.tuple #[zx,.bool false],?_,by rw [g1];exact two (hzd _ _)⟩
  simp [execOp,ho,he,hyv,Instr.lookup,run_underlying (Qff hT),MapKept.run_getObj_map h1,MapKept.run_checkKey hD h5,MapKept.run_findKey hD g2,zeroValue,typeInfo,hi,hzx]
 refine⟨.tuple #[xx.val,.bool true],?_,by rw [g1];exact two g5⟩
 simp [execOp,ho,he,hyv,Instr.lookup,run_underlying (Qff hT),MapKept.run_getObj_map h1,MapKept.run_checkKey hD h5,MapKept.run_findKey hD g2]
theorem Qej {w:World}{r k:Nat}(o:Obj)(h:k≠r):(w.heap.setIfInBounds r o)[k]? = w.heap[k]? := by
 rw [Qq1,if_neg (Ne.symm h)]
theorem Stp.mapUpdateI {T b K E:Nat}{x y u:Operand}{κ α:Type}[DecidableEq κ]{e:κ→V}{val:κ→Value}{f:α→V}{l:List (κ×α)}{k:κ}{v:α}(lt:κ→κ→Bool)(ho:o.op=.mapUpdate T x y u∨o.op=.insert T x y u)(hd:o.dst=none)
  (hx:σ.opd x=some (.map b)) (hb:look σ.hp b=some (.map (QA e f l))) (hy:σ.opd y=some (e k)) (hu:σ.opd u=some (f v)) (hT:Qi7 P T=some (K,E)) (hk:Qdv P K e val) (hv:(f v).dat=true):
  Stp P C o σ (σ.set b (.map (QA e f (Qag lt l k v)))):=by
 refine Stp.skp fun φ a w hr=>?_
 obtain⟨B,hB,he⟩:=(hr.opd hx).map_inv
 have hyv:a.eval y=val k:=hk.inv _ _ _ _ ((hr.opd hy).toDat (hk.edat k))
 have huv:=(hr.opd hu).toDat hv
 obtain⟨D,hD,_⟩:=hk.d
 have hrep:=hr.block hB hb
 obtain⟨es,clock,h1,h2,h3,h4,h5,h6⟩:=Qdn.find hk hD hrep k
 obtain⟨es',clock',h1',_,_,_,r5,r6⟩:=hrep
 rw [h1]at h1';cases h1'
 have hlt:B.b<w.heap.size:=(hr.lt b B _ hB B.self).1
 have write:∀(es2:Array MapEntry) (clock2:Nat) (l2:List (κ×α)),MapKept.Stamped es2 clock2→(l2.map Prod.fst).Nodup→es2.size=l2.length→
   (∀x∈es2.toList,∃p∈l2,x.key=val p.1∧Dat (Imm C φ w) w x.val (f p.2))→(∀p∈l2,∃x∈es2.toList,x.key=val p.1∧Dat (Imm C φ w) w x.val (f p.2))→
   RR C φ (σ.set b (.map (QA e f l2))) a { w with heap:=w.heap.setIfInBounds B.b (.map es2 clock2) }:=by
  intro es2 clock2 l2 a1 a2 a3 a4 a5
  have hI:∀k,Imm C φ w k→Imm C φ { w with heap:=w.heap.setIfInBounds B.b (.map es2 clock2) } k∧(w.heap.setIfInBounds B.b (.map es2 clock2))[k]? = w.heap[k]? := fun k hk'=>
   ⟨⟨by simpa using hk'.1,hk'.2⟩,Qej _ fun e=>hk'.2.2 b B hB (.inl e)⟩
  refine hr.write hB rfl rfl rfl (by simp) (fun k hne=>Qej _ hne) ⟨es2,clock2,by simp [hlt],a1,(QoP hk.einj).2 a2,by rw [a3,QA,QgG],fun x hx=>?_,fun p hp=>?_⟩
  ·obtain⟨p,hp,e1,e2⟩:=a4 x hx
   exact⟨_,QaQ.2 ⟨p,hp,rfl⟩,by rw [e1];exact hk.dat _ _ _,e2.mono hI⟩
  obtain⟨q,hq,rfl⟩:=QaQ.1 hp
  obtain⟨x,hx,e1,e2⟩:=a5 q hq
  exact⟨x,hx,by rw [e1];exact hk.dat _ _ _,e2.mono hI⟩
 have old1:∀x∈es.toList,∃p∈l,x.key=val p.1∧Dat (Imm C φ w) w x.val (f p.2):=fun x hx=>by
  obtain⟨p,hp,a1,a2⟩:=r5 x hx
  obtain⟨q,hq,rfl⟩:=QaQ.1 hp
  exact⟨q,hq,hk.inv _ _ _ _ a1,a2⟩
 have old2:∀p∈l,∃x∈es.toList,x.key=val p.1∧Dat (Imm C φ w) w x.val (f p.2):=fun p hp=>by
  obtain⟨x,hx,a1,a2⟩:=r6 _ (QaQ.2 ⟨p,hp,rfl⟩)
  exact⟨x,hx,hk.inv _ _ _ _ a1,a2⟩
 rcases h6 with⟨g1,g2,g3⟩|⟨j,xx,v0,g1,g2,g3,g4,g5⟩
 ·refine⟨{ w with heap:=w.heap.setIfInBounds B.b (.map (es.push { key:=val k,val:=a.eval u,born:=clock }) (clock+1)) },φ,?_,?_⟩
  ·rcases ho with ho | ho<;>simp [execOp,ho,he,hyv,Instr.mapUpdate,run_underlying (Qff hT),MapKept.run_getObj_map h1,MapKept.run_checkKey hD h5,MapKept.run_findKey hD g2,MapKept.run_setObj_map _ h1]
  rw [hd]
  have hms:Qag lt l k v=Qg1 lt l k v:=by unfold Qag;rw [g1]
  have hmem:∀p,p∈Qg1 lt l k v↔p=(k,v)∨p∈l:=fun p=>by rw [(QnS lt l k v).mem_iff,QaP]
  rw [hms]
  refine write _ _ _ (MapKept.stamped_push h2 g3) (by rw [←hms];exact Qsj lt h3) (by rw [(QnS lt l k v).length_eq];simp [h4]) (fun x hx=>?_) (fun p hp=>?_)
  ·simp only [Array.toList_push,QbG,QnC]at hx
   rcases hx with hx | rfl
   ·obtain⟨p,hp,e1,e2⟩:=old1 x hx;exact⟨p,(hmem p).2 (.inr hp),e1,e2⟩
   exact⟨(k,v),(hmem _).2 (.inl rfl),rfl,huv⟩
  rcases(hmem p).1 hp with rfl | hp
  ·exact⟨{ key:=val k,val:=a.eval u,born:=clock },by simp,rfl,huv⟩
  obtain⟨x,hx,e1,e2⟩:=old2 p hp;exact⟨x,by simp only [Array.toList_push,QbG];exact .inl hx,e1,e2⟩
 refine⟨{ w with heap:=w.heap.setIfInBounds B.b (.map (es.modify j fun x=>{ x with key:=val k,val:=a.eval u }) clock) },φ,?_,?_⟩
 ·rcases ho with ho | ho<;>simp [execOp,ho,he,hyv,Instr.mapUpdate,run_underlying (Qff hT),MapKept.run_getObj_map h1,MapKept.run_checkKey hD h5,MapKept.run_findKey hD g2,MapKept.run_setObj_map _ h1,g3,g4,MapKept.run_keyThatStays h5]
 rw [hd]
 have hms:Qag lt l k v=QhF l k v:=by unfold Qag;rw [g1]
 have hmem:=QyG h3 ⟨v0,Qsh g1⟩ (v:=v)
 have hlen:(QhF l k v).length=l.length:=by have:=congrArg List.length (Qsi l k v);simpa using this
 have hjlt:j<es.size:=(QfX.1 g3).1
 have hmod:∀i:Nat,(es.modify j fun x=>{ x with key:=val k,val:=a.eval u })[i]? = if i=j then some { xx with key:=val k,val:=a.eval u }else es[i]? := fun i=>by
  rw [Qw9]
  by_cases hij:j=i
  ·subst hij;simp [g3]
  rw [if_neg hij,if_neg (Ne.symm hij)]
 have hkeyj:∀i x,es[i]? = some x→x.key=val k→i=j:=fun i x hx hxk=>by
  have hnd:=h2.2.2
  have i1:(es.toList.map (·.key))[i]? = some (val k):=by simp [Qau,hx,hxk]
  have i2:(es.toList.map (·.key))[j]? = some (val k):=by simp [Qau,g3,g4]
  exact(List.getElem?_inj (by simpa using (QfX.1 hx).1) hnd).1 (i1.trans i2.symm)
 rw [hms]
 refine write _ _ _ (MapKept.stamped_modify h2 _ _ (fun _ _=>rfl) fun x _ hx=>by rw [g3]at hx;cases hx;exact g4.symm) (by rw [Qsi];exact h3) (by rw [Array.size_modify,h4,hlen]) (fun x hx=>?_) (fun p hp=>?_)
 ·obtain⟨i,hi⟩:=Qhc.1 hx
  rw [Qmi,hmod]at hi
  split at hi
  ·cases hi;exact⟨(k,v),(hmem _).2 (.inl rfl),rfl,huv⟩
  rename_i hne
  obtain⟨p,hp,e1,e2⟩:=old1 x (by rw [Qhc];exact⟨i,by simpa using hi⟩)
  exact⟨p,(hmem p).2 (.inr ⟨hp,fun e=>hne (hkeyj i x hi (by rw [e1,e]))⟩),e1,e2⟩
 rcases(hmem p).1 hp with rfl | ⟨hp,hne⟩
 ·exact⟨_,Qhc.2 ⟨j,by rw [Qmi,hmod,if_pos rfl]⟩,rfl,huv⟩
 obtain⟨x,hx,e1,e2⟩:=old2 p hp
 obtain⟨i,hi⟩:=Qhc.1 hx
 refine⟨x,Qhc.2 ⟨i,?_⟩,e1,e2⟩
 have hij:i≠j:=fun e=>by
  subst e
  rw [Qmi,g3]at hi;cases hi
  exact hne (hk.inj _ _ (by rw [←e1,g4]))
 rw [Qmi,hmod,if_neg hij,←Qmi];exact hi
theorem Stp.mapUpdate {T b K E:Nat}{x y u:Operand}{κ α:Type}[DecidableEq κ]{e:κ→V}{val:κ→Value}{f:α→V}{l:List (κ×α)}{k:κ}{v:α}(lt:κ→κ→Bool)(ho:o.op=.mapUpdate T x y u)(hd:o.dst=none)
  (hx:σ.opd x=some (.map b)) (hb:look σ.hp b=some (.map (QA e f l))) (hy:σ.opd y=some (e k)) (hu:σ.opd u=some (f v)) (hT:Qi7 P T=some (K,E)) (hk:Qdv P K e val) (hv:(f v).dat=true):
  Stp P C o σ (σ.set b (.map (QA e f (Qag lt l k v)))):=
 Stp.mapUpdateI lt (.inl ho) hd hx hb hy hu hT hk hv
theorem Stp.insert {T b K E:Nat}{x y u:Operand}{κ α:Type}[DecidableEq κ]{e:κ→V}{val:κ→Value}{f:α→V}{l:List (κ×α)}{k:κ}{v:α}(lt:κ→κ→Bool)(ho:o.op=.insert T x y u)(hd:o.dst=none)
  (hx:σ.opd x=some (.map b)) (hb:look σ.hp b=some (.map (QA e f l))) (hy:σ.opd y=some (e k)) (hu:σ.opd u=some (f v)) (hT:Qi7 P T=some (K,E)) (hk:Qdv P K e val) (hv:(f v).dat=true):
  Stp P C o σ (σ.set b (.map (QA e f (Qag lt l k v)))):=
 Stp.mapUpdateI lt (.inr ho) hd hx hb hy hu hT hk hv
end
end Go.Vm
namespace Go.Vm
open Go Go.RowKit
inductive Bnd (σ:St) (dflt:Nat):Option Operand→Nat→Prop where
 | no:Bnd σ dflt none dflt
 | val {x:Operand} {k:IntKind} {n:Int} {l:Nat}:σ.opd x=some (.i k n)→0≤n→n.toNat=l→Bnd σ dflt (some x) l
section
variable {P:Program}{C:Ctx}{σ:St}{o:Oper}{φ:Nat→Option Blk}{a:Act}{w:World}
theorem Qjm {k:IntKind}{i:Int}{y:Nat}{code:BoundsCode}(h0:0≤i)(h1:i.toNat≤y):(Instr.sliceBound (.int k i) y code).run P w=.ok i.toNat w:=by
 have:0≤i∧i≤(y:Int):=⟨h0,by omega⟩
 simp [Instr.sliceBound,asIntOf,this]
theorem Qfv (hr:RR C φ σ a w){lo hi:Option Operand}{l h len cap:Nat}{b:Bool}(hl:Bnd σ 0 lo l)(hh:Bnd σ len hi h)(h1:l≤h)(h2:h≤cap):
  (Instr.sliceBounds b len cap (lo.map a.eval) (hi.map a.eval) none).run P w=.ok (l,h,cap) w:=by
 cases hl with
 | no=>
  cases hh with
  | no=>simp [Instr.sliceBounds]
  | val e1 e2 e3=>subst e3;simp [Instr.sliceBounds,(hr.opd e1).i_inv,Qjm e2 h2]
 | val e1 e2 e3=>
  subst e3
  cases hh with
  | no=>simp [Instr.sliceBounds,(hr.opd e1).i_inv,Qjm e2 h1]
  | val f1 f2 f3=>subst f3;simp [Instr.sliceBounds,(hr.opd e1).i_inv,Qjm e2 h1,(hr.opd f1).i_inv,Qjm f2 h2]
theorem Stp.sliceD {T d l h e z by_:Nat}{x:Operand}{lo hi:Option Operand}{rows us:List (List V)}(ho:o.op=.slice T x lo hi none)(hd:o.dst=some d)(hn:Nat.ble (d+1) C.n=true)(hx:σ.opd x=some (.sl z rows))
  (hT:QaL P T=some (e,z,by_)) (hl:Bnd σ 0 lo l) (hh:Bnd σ rows.length hi h) (h1:l≤h) (h2:h≤rows.length) (hu:(rows.drop l).take (h-l)=us):Stp P C o σ (σ.put d (.sl z us)):=by
 refine Stp.same hd hn fun φ a w hr=>?_
 subst hu
 obtain⟨hu,i,hi',hiz,_⟩:=Qcm hT
 rcases(hr.opd hx).sl_inv with⟨a0,cap,he,rfl⟩|⟨b,off,cap,he,hI,hcap,hok,c,hc,hdat⟩
 ·have h0:h=0:=by simpa using h2
  subst h0
  have l0:l=0:=by omega
  subst l0
  refine⟨.slice (if cap=0 then a0 else a0.map (·.add (0*i.size))) 0 cap,?_,.dat (.sl0 _ _ _)⟩
  have hh':Bnd σ 0 hi 0:=hh
  simp [execOp,ho,he,Instr.sliceAt,Instr.slice,run_underlying hu,Qfv hr hl hh' h1 (by simp:0≤cap),sizeOf,typeInfo,hi']
 refine⟨.slice (if cap=l then some ⟨b,off,none⟩else some ((⟨b,off,none⟩:Addr).add (l*i.size))) (h-l) (cap-l),?_,.dat ?_⟩
 ·simp only [execOp,ho,he,Instr.sliceAt,Instr.slice,run_underlying hu,Qlj,Qfv hr hl hh h1 (by omega:h≤cap),sizeOf,typeInfo,hi',Sem.run_bind,Sem.run_pure,run_program,Result.andThen_ok,QcB,Qlj]
 by_cases hlh:h-l=0
 ·rw [hlh];simp only [List.take_zero];exact .sl0 _ _ _
 have hcl:cap≠l:=by omega
 rw [if_neg hcl,hiz,Addr.add_lit]
 refine .sl b (off+l*z) (h-l) (cap-l) z _ (fun j=>c (l*z+j)) hI (by simp;omega) (by omega) (fun r hr'=>hok r (Qr4 (Qii hr'))) (fun j hj=>?_) (fun k r hk j v hj=>?_)
 ·have hle:l*z+(h-l)*z≤rows.length*z:=by rw [←QdI];exact Qcw _ (by omega)
  have:=hc (l*z+j) (by omega)
  rw [QoK];exact this
 rw [QcK]at hk
 split at hk
 ·rw [Qih]at hk
  have:=hdat (l+k) r hk j v hj
  rw [QdI]at this
  rw [←QoK];exact this
 cases hk
theorem RR.shrink (h:RR C φ σ a w){b z:Nat}{rs:List (List V)}(hb:look σ.hp b=some (.arr z rs))(n:Nat):RR C φ (σ.set b (.arr z (rs.take n))) a w:=by
 refine⟨h.os,h.tape,h.output,h.size,h.kept,h.inj,fun o B hB=>?_,h.lt,h.new,h.stay.set hb,h.tmps,h.defers,h.frame,fun o ob hob=>?_⟩
 ·by_cases e:o=b
  ·subst e;exact⟨_,σ.look_set_same _ _⟩
  obtain⟨ob,h1⟩:=h.dom o B hB;exact⟨ob,by rw [σ.look_set_other _ (Ne.symm e)];exact h1⟩
 by_cases e:o=b
 ·subst e;rw [σ.look_set_same]at hob;cases hob
  rcases h.heap o _ hb with⟨B,hB,h1,h2,h3,cs,E,h4,h5,h6⟩|⟨h1,z',h2⟩
  ·refine .inl ⟨B,hB,h1,by simp;omega,fun r hr=>h3 r (Qii hr),cs,E,h4,h5,fun i r hi=>?_⟩
   rw [QcK]at hi
   split at hi
   ·exact h6 i r hi
   cases hi
  cases h2;exact .inr ⟨h1,z,by simp⟩
 rw [σ.look_set_other _ (Ne.symm e)]at hob;exact h.heap o ob hob
theorem Stp.sliceO {T d b n h e z by_:Nat}{x:Operand}{lo hi:Option Operand}{rs us:List (List V)}(ho:o.op=.slice T x lo hi none)(hd:o.dst=some d)(hn:Nat.ble (d+1) C.n=true)(hx:σ.opd x=some (.own b n))
  (hb:look σ.hp b=some (.arr z rs)) (hT:QaL P T=some (e,z,by_)) (hl:Bnd σ 0 lo 0) (hh:Bnd σ n hi h) (h2:h≤n) (hu:rs.take h=us):Stp P C o σ ((σ.set b (.arr z us)).put d (.own b h)):=by
 refine Stp.val fun φ a w hr=>?_
 subst hu
 obtain⟨hu,i,hi',hiz,_⟩:=Qcm hT
 have hs:=hr.shrink hb h
 rcases(hr.opd hx).own_inv with⟨he,rfl⟩|⟨B,hB,hcap,he⟩
 ·have h0:h=0:=by omega
  subst h0
  refine⟨.slice none 0 0,w,φ,?_,by rw [hd];exact hs.put (Qab hn) (.own0 b)⟩
  simp [execOp,ho,he,Instr.sliceAt,Instr.slice,run_underlying hu,Qfv hr hl hh (by omega) (by omega:0≤0),sizeOf,typeInfo,hi']
 refine⟨.slice (some ⟨B.b,B.off,none⟩) h B.cap,w,φ,?_,by rw [hd];exact hs.put (Qab hn) (.own b h B hB (by omega))⟩
 simp only [execOp,ho,he,Instr.sliceAt,Instr.slice,run_underlying hu,Qfv hr hl hh (by omega) (by omega:h≤B.cap),sizeOf,typeInfo,hi',Sem.run_bind,Sem.run_pure,run_program,Result.andThen_ok,QcB,Qlj,QlE,Addr.add_lit,QnE,ite_self,Nat.sub_zero]
theorem RR.rebase (h:RR C φ σ a w){b:Nat}{B B':Blk}(hB:φ b=some B)(hb2:b<617)(hb:B'.b=B.b)(hm:B'.more=B.more)(ob:Ob)(hob:Qa0 (ext φ b B') (Imm C φ w) w B' ob):
  RR C (ext φ b B') ((σ.kill b).set b ob) a w:=by
 have hh:∀k,B'.has k↔B.has k:=fun k=>by unfold Blk.has;rw [hb,hm]
 have old:∀o B1,ext φ b B' o=some B1→∃B2,φ o=some B2∧∀k,B1.has k↔B2.has k:=fun o B1 h1=>by
  by_cases e:o=b
  ·subst e;rw [QQ]at h1;cases h1;exact⟨B,hB,hh⟩
  rw [QG _ e]at h1;exact⟨B1,h1,fun _=>Iff.rfl⟩
 have hImm:∀k,Imm C (ext φ b B') w k↔Imm C φ w k:=fun k=>by
  unfold Imm
  refine and_congr_right fun _=>and_congr_right fun _=>⟨fun h1 o B1 h2=>?_,fun h1 o B1 h2=>?_⟩
  ·by_cases e:o=b
   ·subst e;rw [hB]at h2;cases h2;rw [←hh];exact h1 o B' (QQ _ _ _)
   exact h1 o B1 (by rw [QG _ e];exact h2)
  obtain⟨B2,h3,h4⟩:=old o B1 h2
  rw [h4];exact h1 o B2 h3
 have hI:∀k,Imm C φ w k→Imm C (ext φ b B') w k∧w.heap[k]? = w.heap[k]? := fun k hk=>⟨(hImm k).2 hk,rfl⟩
 have hφ:∀o B1,o≠b→φ o=some B1→ext φ b B' o=some B1:=fun o B1 e h1=>by rw [QG _ e];exact h1
 refine⟨h.os,h.tape,h.output,h.size,h.kept,fun o o' B1 B2 k h1 h2 h3 h4=>?_,fun o B1 h1=>?_,fun o B1 k h1 h2=>?_,fun o B1 k h1 h2 h3=>?_,⟨fun o B1 hge h1=>?_,fun o ob' B1 hge ho h1=>?_⟩,h.tmps,h.defers.mono hI,fun t v hv=>?_,fun o ob' hob'=>?_⟩
 ·obtain⟨C1,c1,c2⟩:=old o B1 h1
  obtain⟨C2,c3,c4⟩:=old o' B2 h2
  exact h.inj o o' C1 C2 k c1 c3 ((c2 k).1 h3) ((c4 k).1 h4)
 ·by_cases e:o=b
  ·subst e;exact⟨ob,St.look_set_same _ _ _⟩
  rw [QG _ e]at h1
  obtain⟨ob',h'⟩:=h.dom o B1 h1
  exact⟨_,by rw [St.look_set_other _ _ (Ne.symm e)];exact Qb0 _ _ _ e h'⟩
 ·obtain⟨C1,c1,c2⟩:=old o B1 h1
  exact h.lt o C1 k c1 ((c2 k).1 h2)
 ·obtain⟨C1,c1,c2⟩:=old o B1 h1
  exact h.new o C1 k c1 ((c2 k).1 h2) h3
 ·rw [QG _ (by omega)]at h1;exact h.stay.1 o B1 hge h1
 ·have e:o≠b:=by omega
  rw [St.look_set_other _ _ (Ne.symm e)]at ho
  obtain⟨_,ob2,h2,_⟩:=Qbq _ _ _ ho
  rw [QG _ e];exact h.stay.2 o ob2 B1 hge h2 h1
 ·obtain⟨v',hv',rfl⟩:=Qi1 _ _ _ hv
  obtain⟨x,hx,hr⟩:=h.frame t v' hv'
  exact⟨x,hx,hr.kill hφ hI⟩
 by_cases e:o=b
 ·subst e;rw [St.look_set_same]at hob';cases hob'
  exact .inl ⟨B',QQ _ _ _,hob.mono (fun _ _ h=>h) hI fun _ _=>rfl⟩
 rw [St.look_set_other _ _ (Ne.symm e)]at hob'
 obtain⟨hne,ob2,hob2,rfl⟩:=Qbq _ _ _ hob'
 rcases h.heap o ob2 hob2 with⟨B1,hB1,hr⟩|⟨h1,z,rfl⟩
 ·exact .inl ⟨B1,hφ o B1 e hB1,hr.kill hφ hI fun _ _=>rfl⟩
 exact .inr ⟨by rw [QG _ e];exact h1,z,rfl⟩
theorem Stp.sliceT {T d b n l h m e z by_:Nat}{x:Operand}{lo hi:Option Operand}{rs us:List (List V)}(ho:o.op=.slice T x lo hi none)(hd:o.dst=some d)(hn:Nat.ble (d+1) C.n=true)(hx:σ.opd x=some (.own b n))
  (hb:look σ.hp b=some (.arr z rs)) (hb1:Nat.ble 617 b=false) (hT:QaL P T=some (e,z,by_)) (hl:Bnd σ 0 lo l) (hh:Bnd σ n hi h) (h1:l≤h) (h2:h≤n) (hu:(rs.drop l).take (h-l)=us) (hm:h-l=m):Stp P C o σ (σ.app b z d m us):=by
 refine Stp.val fun φ a w hr=>?_
 subst hu hm
 have hb2:b<617:=by
  rcases QeB b 617 with h | h
  ·exact h
  rw [Qml h]at hb1;cases hb1
 obtain⟨hu,i,hi',hiz,_⟩:=Qcm hT
 rcases(hr.opd hx).own_inv with⟨he,rfl⟩|⟨B,hB,hcap,he⟩
 ·have h0:h=0:=by omega
  have l0:l=0:=by omega
  subst h0 l0
  refine⟨.slice none 0 0,w,φ,?_,?_⟩
  ·simp [execOp,ho,he,Instr.sliceAt,Instr.slice,run_underlying hu,Qfv hr hl hh (by omega) (by omega:0≤0),sizeOf,typeInfo,hi']
  rw [hd]
  have:=hr.reset b (.arr z []) ⟨_,hb⟩ (by
   rcases hr.heap b _ hb with⟨B,hB,hrep⟩|hn
   ·left
    obtain⟨e1,e2,e3,cs,E,e4,e5,e6⟩:=hrep
    exact⟨B,hB,e1,Nat.zero_le _,by simp,cs,E,e4,e5,by simp⟩
   exact .inr ⟨hn.1,z,rfl⟩)
  simpa [St.app] using this.put (Qab hn) (.own0 b)
 have hrep:=hr.block hB hb
 obtain⟨e1,e2,e3,cs,E,e4,e5,e6⟩:=hrep
 by_cases hcl:B.cap=l
 ·
  have hrl:rs.drop l=[]:=List.drop_eq_nil_of_le (by omega)
  have hhl:h=l:=by omega
  subst hhl
  have hcap0:B.cap-h=0:=by omega
  refine⟨.slice (some ⟨B.b,B.off,none⟩) 0 0,w,ext φ b { B with cap:=0 },?_,?_⟩
  ·simp only [execOp,ho,he,Instr.sliceAt,Instr.slice,run_underlying hu,Qfv hr hl hh h1 (by omega:h≤B.cap),sizeOf,typeInfo,hi',Sem.run_bind,Sem.run_pure,run_program,Result.andThen_ok,QcB,Qlj]
   simp [hcl]
  rw [hd,hrl,Nat.sub_self]
  simp only [List.take_nil]
  exact(hr.rebase (B':={ B with cap:=0 }) hB hb2 rfl rfl (.arr z []) ⟨e1,Nat.zero_le _,by simp,cs,E,e4,by simp;omega,by simp⟩).put (Qab hn) (.own b 0 { B with cap:=0 } (QQ _ _ _) (QbT _))
 subst e1
 let B':Blk:={ B with off:=B.off+l*B.z,cap:=B.cap-l }
 refine⟨.slice (some ⟨B.b,B.off+l*B.z,none⟩) (h-l) (B.cap-l),w,ext φ b B',?_,?_⟩
 ·simp only [execOp,ho,he,Instr.sliceAt,Instr.slice,run_underlying hu,Qfv hr hl hh h1 (by omega:h≤B.cap),sizeOf,typeInfo,hi',Sem.run_bind,Sem.run_pure,run_program,Result.andThen_ok,QcB,Qlj,if_neg hcl,hiz,Addr.add_lit]
 rw [hd]
 have hmul:l*B.z+(B.cap-l)*B.z=B.cap*B.z:=by rw [←QdI];congr 1;omega
 refine(hr.rebase (B':=B') hB hb2 rfl rfl (.arr B.z ((rs.drop l).take (h-l))) ⟨rfl,by simp [B'];omega,fun r hr'=>e3 r (Qr4 (Qii hr')),cs,E,e4,by simp only [B'];omega,fun k r hk j v hj=>?_⟩).put (Qab hn) (.own b (h-l) B' (QQ _ _ _) (by simp only [B'];omega))
 rw [QcK]at hk
 split at hk
 ·rw [Qih]at hk
  obtain⟨y,hy,hD⟩:=e6 (l+k) r hk j v hj
  refine⟨y,?_,hD⟩
  rw [←hy];simp only [B'];congr 1;rw [QdI];omega
 cases hk
def QuC (P:Program)(T:TypeId):Bool:=match P.underlying T with
 | some (.interface _)=>false
 | some _=>true
 | none=>false
theorem QxO {T:TypeId}(h:QuC P T=true):∃D,P.underlying T=some D∧∀m,D≠.interface m:=by
 unfold QuC at h
 split at h
 ·cases h
 ·rename_i D hne he;exact⟨D,he,fun m e=>hne m (by rw [e])⟩
 cases h
theorem Stp.makeInterface {T d:Nat}{x:Operand}{v:V}(ho:o.op=.makeInterface T x)(hd:o.dst=some d)(hn:Nat.ble (d+1) C.n=true)(hx:σ.opd x=some v)(hT:QuC P T=true):Stp P C o σ (σ.put d (.ifc T v)):=by
 refine Stp.same hd hn fun φ a w hr=>⟨.iface T (a.eval x),?_,.ifc T _ _ (hr.opd hx)⟩
 obtain⟨D,hD,hne⟩:=QxO hT
 have:(Instr.makeInterface T (a.eval x)).run P w=.ok (.iface T (a.eval x)) w:=by
  simp only [Instr.makeInterface,Sem.run_bind,run_underlying hD,Result.andThen_ok]
  cases D<;>first | rfl | exact absurd rfl (hne _)
 simp only [execOp,ho,Sem.run_bind,this,Result.andThen_ok,Sem.run_pure]
theorem Stp.typeAssert {T S d:Nat}{x:Operand}{v:V}(ho:o.op=.typeAssert x S T false)(hd:o.dst=some d)(hn:Nat.ble (d+1) C.n=true)(hx:σ.opd x=some (.ifc T v))(hT:QuC P T=true):Stp P C o σ (σ.put d v):=by
 refine Stp.same hd hn fun φ a w hr=>?_
 obtain⟨y,he,hy⟩:=(hr.opd hx).ifc_inv
 refine⟨y,?_,hy⟩
 obtain⟨D,hD,hne⟩:=QxO hT
 have:(Instr.typeAssert (.iface T y) S T false).run P w=.ok y w:=by
  simp only [Instr.typeAssert,Sem.run_bind,run_underlying hD,Result.andThen_ok]
  cases D<;>first | simp | exact absurd rfl (hne _)
 simp only [execOp,ho,he,Sem.run_bind,this,Result.andThen_ok,Sem.run_pure]
theorem Stp.nilCheckL {d b i k:Nat}{x:Operand}(ho:o.op=.nilCheck x)(hd:o.dst=some d)(hn:Nat.ble (d+1) C.n=true)(hx:σ.opd x=some (.loc b i k)):Stp P C o σ (σ.put d (.loc b i k)):=by
 refine Stp.same hd hn fun φ a w hr=>⟨a.eval x,?_,hr.opd hx⟩
 obtain⟨B,hB,he⟩:=(hr.opd hx).loc_inv
 simp [execOp,ho,he]
theorem Stp.makeFunc {d:Nat}{fn:Fn}{first caps:Array Operand}{vs us:List V}(ho:o.op=.makeFunc fn first caps)(hd:o.dst=some d)(hn:Nat.ble (d+1) C.n=true)(h1:σ.opsV first.toList=some vs)(h2:σ.opsV caps.toList=some us):
  Stp P C o σ (σ.put d (.clo fn vs us)):=by
 refine Stp.same hd hn fun φ a w hr=>?_
 obtain⟨a1,a2⟩:=hr.opsV _ _ h1
 obtain⟨b1,b2⟩:=hr.opsV _ _ h2
 refine⟨.func fn (first.map a.eval) (caps.map a.eval),by simp [execOp,ho,Instr.makeFunc],.clo fn _ _ _ _ (by simpa using a1) (by simpa using b1) (fun j x v hx hv=>?_) fun j x v hx hv=>?_⟩
 ·rw [Array.getElem?_map,Qaq]at hx
  obtain⟨y,hy,rfl⟩:=hx
  exact a2 j y v (by simpa using hy) hv
 rw [Array.getElem?_map,Qaq]at hx
 obtain⟨y,hy,rfl⟩:=hx
 exact b2 j y v (by simpa using hy) hv
end
end Go.Vm
namespace Go.Vm
open Go Go.RowKit
def Qg2 {κ:Type}(e:κ→V)(l:List (κ×List (List V))):List (V×List (List V)):=l.map fun p=>(e p.1,p.2)
theorem QxP : ∀(bs:List (Option Blk)) (j:Nat) (F:Blk),bs[j]? = some (some F)→(bs.filterMap (Option.map Blk.b)).Perm (F.b::(bs.set j none).filterMap (Option.map Blk.b)):=by
 intro bs
 induction bs with
 | nil=>intro j F h;simp at h
 | cons b bs ih=>
  intro j F h
  match j with
  | 0=>simp at h;subst h;simp
  | j+1=>
   have:=ih j F (by simpa using h)
   cases b with
   | none=>simpa using this
   | some G=>simpa using (this.cons G.b).trans (List.Perm.swap _ _ _)
theorem QA9 (bs:List (Option Blk))(j:Nat)(F:Blk)(h:bs[j]? = some none):((bs.set j (some F)).filterMap (Option.map Blk.b)).Perm (F.b::bs.filterMap (Option.map Blk.b)):=by
 have hlt:=(QU.1 h).1
 have:=QxP (bs.set j (some F)) j F (by simp [hlt])
 have e:(bs.set j (some F)).set j none=bs:=by
  rw [List.set_set]
  apply List.ext_getElem?
  intro i
  by_cases e:j=i
  ·subst e;rw [h];simp [hlt]
  rw [QoH e]
 rwa [e]at this
section
variable {P:Program}{K:TypeId}{κ:Type}[DecidableEq κ]{e:κ→V}{val:κ→Value}{I:Nat→Prop}{w:World}{B:Blk}{l:List (κ×List (List V))}{z:Nat}{out:Option V}
theorem QoQ (he:∀a b,e a=e b→a=b):((Qg2 e l).map Prod.fst).Nodup↔(l.map Prod.fst).Nodup:=by
 have:(Qg2 e l).map Prod.fst=(l.map Prod.fst).map e:=by simp [Qg2]
 rw [this]
 constructor
 ·intro h;exact(QoJ.1 h).imp fun hab e'=>hab (by rw [e'])
 intro h;exact QoJ.2 (h.imp fun hab e'=>hab (he _ _ e'))
def Qwl (I:Nat→Prop)(w:World)(z:Nat)(e:κ→V)(val:κ→Value)(out:Option V)(l:List (κ×List (List V)))(x:MapEntry)(E:Option Blk):Prop:=
 ∃q∈l,x.key=val q.1∧((∃F,E=some F∧F.more=[]∧out≠some (e q.1)∧QaD I w F z q.2∧x.val=.slice (some ⟨F.b,F.off,none⟩) q.2.length F.cap)∨(E=none∧out=some (e q.1)))
theorem Qcl.find (hk:Qdv P K e val){D:TypeDesc}(hD:P.underlying K=some D)(h:Qcl I w B z (Qg2 e l) out)(k:κ):∃(es:Array MapEntry) (clock:Nat) (bs:List (Option Blk)),w.heap[B.b]? = some (.map es clock)∧MapKept.Stamped es clock∧(l.map Prod.fst).Nodup∧
  es.size=l.length∧bs.length=l.length∧B.more=bs.filterMap (Option.map Blk.b)∧(B.b::B.more).Nodup∧MapKept.IsKey D (val k)∧
  (∀(i:Nat) x E,es[i]? = some x→bs[i]? = some E→Qwl I w z e val out l x E)∧(∀q∈l,∃(i:Nat) (x:MapEntry),es[i]? = some x∧x.key=val q.1)∧
  ((Qv l k=none∧Instr.findNow D (val k) es.toList 0=some none∧∀x∈es.toList,x.key≠val k)∨
   ∃j x E rs,Qv l k=some rs∧Instr.findNow D (val k) es.toList 0=some (some (j,x.val))∧es[j]? = some x∧bs[j]? = some E∧x.key=val k∧∀i y,es[i]? = some y→y.key=val k→i=j):=by
 obtain⟨es,clock,h1,h2,h3,h4,bs,h5,h6,h7,h8,h9⟩:=h
 obtain⟨D',hD',hK⟩:=hk.d
 rw [hD]at hD';cases hD'
 have hn:=(QoQ hk.einj).1 h3
 have hl:(Qg2 e l).length=l.length:=by simp [Qg2]
 have hrow:∀(i:Nat) x E,es[i]? = some x→bs[i]? = some E→Qwl I w z e val out l x E:=fun i x E hi hE=>by
  obtain⟨p,hp,a1,a2⟩:=h8 i x E hi hE
  obtain⟨q,hq,rfl⟩:=QaQ.1 hp
  exact⟨q,hq,hk.inv _ _ _ _ a1,a2⟩
 have hbs:∀i x,es[i]? = some x→∃E,bs[i]? = some E:=fun i x hi=>by
  have hlt:i<bs.length:=by rw [h5,←h4];exact(QfX.1 hi).1
  exact⟨_,QB hlt⟩
 have hks:∀x∈es.toList,MapKept.IsKey D x.key:=fun x hx=>by
  obtain⟨i,hi⟩:=Qhc.1 hx
  rw [Qmi]at hi
  obtain⟨E,hE⟩:=hbs i x hi
  obtain⟨q,_,e1,_⟩:=hrow i x E hi hE
  rw [e1];exact hK _
 refine⟨es,clock,bs,h1,h2,hn,by rw [h4,hl],by rw [h5,hl],h6,h7,hK k,hrow,fun q hq=>?_,?_⟩
 ·obtain⟨i,x,hi,a1⟩:=h9 _ (QaQ.2 ⟨q,hq,rfl⟩)
  exact⟨i,x,hi,hk.inv _ _ _ _ a1⟩
 rcases MapKept.findNow_spec (hK k) es.toList 0 hks with⟨g1,g2⟩|⟨j,x,g1,g2,g3⟩
 ·refine .inl ⟨?_,g1,g2⟩
  cases hg:Qv l k with
  | none=>rfl
  | some rs=>
   obtain⟨i,x,hi,a1⟩:=h9 (e k,rs) (QaQ.2 ⟨(k,rs),Qsh hg,rfl⟩)
   exact absurd (hk.inv _ _ _ _ a1) (g2 x (Qhc.2 ⟨i,by rw [Qmi];exact hi⟩))
 have g2':es[j]? = some x:=by simpa using g2
 obtain⟨E,hE⟩:=hbs j x g2'
 obtain⟨⟨a,rs⟩,hm,e1,_⟩:=hrow j x E g2' hE
 have:a=k:=hk.inj _ _ (by rw [←e1,g3])
 subst this
 refine .inr ⟨j,x,E,rs,Qll hn hm,by simpa using g1,g2',hE,g3,fun i y hy hyk=>?_⟩
 have i1:(es.toList.map (·.key))[i]? = some (val a):=by simp [Qau,hy,hyk]
 have i2:(es.toList.map (·.key))[j]? = some (val a):=by simp [Qau,g2',g3]
 exact(List.getElem?_inj (by simpa using (QfX.1 hy).1) h2.2.2).1 (i1.trans i2.symm)
theorem Qcl.of (hk:Qdv P K e val){es:Array MapEntry}{clock:Nat}{bs:List (Option Blk)}(h1:w.heap[B.b]? = some (.map es clock))(h2:MapKept.Stamped es clock)(h3:(l.map Prod.fst).Nodup)(h4:es.size=l.length)
  (h5:bs.length=l.length) (h6:B.more=bs.filterMap (Option.map Blk.b)) (h7:(B.b::B.more).Nodup) (h8:∀(i:Nat) x E,es[i]? = some x→bs[i]? = some E→Qwl I w z e val out l x E)
  (h9:∀q∈l,∃(i:Nat) (x:MapEntry),es[i]? = some x∧x.key=val q.1):Qcl I w B z (Qg2 e l) out:=by
 have hl:(Qg2 e l).length=l.length:=by simp [Qg2]
 refine⟨es,clock,h1,h2,(QoQ hk.einj).2 h3,by rw [h4,hl],bs,by rw [h5,hl],h6,h7,fun i x E hi hE=>?_,fun p hp=>?_⟩
 ·obtain⟨q,hq,a1,a2⟩:=h8 i x E hi hE
  exact⟨_,QaQ.2 ⟨q,hq,rfl⟩,by rw [a1];exact hk.dat _ _ _,a2⟩
 obtain⟨q,hq,rfl⟩:=QaQ.1 hp
 obtain⟨i,x,hi,a1⟩:=h9 q hq
 exact⟨i,x,hi,by rw [a1];exact hk.dat _ _ _⟩
end
theorem Rep.heads {φ φ':Nat→Option Blk}{I I':Nat→Prop}{w w':World}(hφ:∀o B,φ o=some B→∃B',φ' o=some B'∧B'.b=B.b∧B'.cap=B.cap∧B'.z=B.z∧B'.off=B.off)(hI:∀k,I k→I' k∧w'.heap[k]? = w.heap[k]?)
  {x:Value} {v:V} (h:Rep φ I w x v):Rep φ' I' w' x v:=by
 induction h with
 | dat d=>exact .dat (d.mono hI)
 | own0 p=>exact .own0 p
 | own p n B1 h1 hn=>
  obtain⟨B',h2,e1,e2,_,e4⟩:=hφ p B1 h1
  have:=Rep.own (φ:=φ') (I:=I') (w:=w') p n B' h2 (by rw [e2];exact hn)
  rwa [e1,e2,e4]at this
 | loc p i d B1 h1=>
  obtain⟨B',h2,e1,_,e3,e4⟩:=hφ p B1 h1
  have:=Rep.loc (φ:=φ') (I:=I') (w:=w') p i d B' h2
  rwa [e1,e3,e4]at this
 | map p B1 h1=>
  obtain⟨B',h2,e1,_,_⟩:=hφ p B1 h1
  have:=Rep.map (φ:=φ') (I:=I') (w:=w') p B' h2
  rwa [e1]at this
 | agg xs cs hs _ ih=>exact .agg xs cs hs ih
 | tup xs cs hs _ ih=>exact .tup xs cs hs ih
 | ifc t x v _ ih=>exact .ifc t x v ih
 | clo fn xs ys vs us h1 h2 _ _ ih1 ih2=>exact .clo fn xs ys vs us h1 h2 ih1 ih2
theorem Qa0.heads {φ φ':Nat→Option Blk}{I I':Nat→Prop}{w w':World}(hφ:∀o B,φ o=some B→∃B',φ' o=some B'∧B'.b=B.b∧B'.cap=B.cap∧B'.z=B.z∧B'.off=B.off)(hI:∀k,I k→I' k∧w'.heap[k]? = w.heap[k]?)
  {B:Blk} (hB:∀k,B.has k→w'.heap[k]? = w.heap[k]?) {ob:Ob} (d:Qa0 φ I w B ob):Qa0 φ' I' w' B ob:=by
 cases ob with
 | var vs=>
  obtain⟨cs,E,h1,h2,h0,h3⟩:=d
  exact⟨cs,E,(hB _ B.self).trans h1,h2,h0,fun j x v hx hv=>(h3 j x v hx hv).heads hφ hI⟩
 | lp l K vs q=>
  obtain⟨tmps,D,rfl,h1,h2,h3,h4⟩:=d
  exact⟨tmps,D,rfl,h1,(hB _ B.self).trans h2,h3,fun j x v hx hv=>(h4 j x v hx hv).heads hφ hI⟩
 | arr z rs=>exact QaD.mono hI (hB _ B.self) d
 | map l=>exact Qdn.mono hI (hB _ B.self) d
 | grp z l lk=>exact Qcl.mono hI hB d
 | mapX bm clock L l=>exact QeX.mono hI (hB _ B.self) d
 | itr bm since seen cur=>exact QnR.mono (hB _ B.self) d
 | itr0=>obtain⟨s,c,h1⟩:=d;exact⟨s,c,(hB _ B.self).trans h1.1,h1.2⟩
section
variable {P:Program}{C:Ctx}{σ:St}{o:Oper}{φ:Nat→Option Blk}{a:Act}{w:World}{ops:Array Oper}{c:Code}{Q:Exit→St→Prop}
theorem Qsk {b:Nat}(hp:Nat.ble 615 b=false):b<615:=by
 rcases QeB b 615 with h | h
 ·exact h
 rw [Qml h]at hp;cases hp
theorem Stp.makeGrp {T d:Nat}(z:Nat)(ho:o.op=.makeMap T none)(hd:o.dst=some d)(hn:Nat.ble (d+1) C.n=true)(hf:look σ.hp d=none):Stp P C o σ ((σ.set d (.grp z [] none)).put d (.map d)):=by
 refine Stp.val fun φ a w hr=>?_
 refine⟨.map (some w.heap.size),w.alloc (.map #[] 0),ext φ d ⟨w.heap.size,0,0,[],0⟩,?_,?_⟩
 ·simp [execOp,ho,Instr.makeMap]
 rw [hd]
 refine(hr.alloc (cap:=0) (z:=0) hf (C.slot hn) (ob:=.grp z [] none) (obj:=.map #[] 0) ⟨#[],0,heap_alloc_new w _,MapKept.stamped_empty 0,by simp,rfl,[],rfl,rfl,by simp,by simp,by simp⟩).put (Qab hn) ?_
 exact .map d ⟨w.heap.size,0,0,[],0⟩ (QQ _ _ _)
theorem RR.say' (h:RR C φ σ a w){b:Nat}{ob ob':Ob}(hb:look σ.hp b=some ob)(hs:∀B,φ b=some B→Qa0 φ (Imm C φ w) w B ob→Qa0 φ (Imm C φ w) w B ob')(hne:∀z,ob≠.arr z []):RR C φ (σ.set b ob') a w:=by
 refine⟨h.os,h.tape,h.output,h.size,h.kept,h.inj,fun o B hB=>?_,h.lt,h.new,h.stay.set hb,h.tmps,h.defers,h.frame,fun o ob2 hob=>?_⟩
 ·by_cases e:o=b
  ·subst e;exact⟨_,σ.look_set_same _ _⟩
  obtain⟨ob,h1⟩:=h.dom o B hB;exact⟨ob,by rw [σ.look_set_other _ (Ne.symm e)];exact h1⟩
 by_cases e:o=b
 ·subst e;rw [σ.look_set_same]at hob;cases hob
  rcases h.heap o _ hb with⟨B,hB,hr⟩|⟨_,z,h2⟩
  ·exact .inl ⟨B,hB,hs B hB hr⟩
  exact absurd h2 (hne z)
 rw [σ.look_set_other _ (Ne.symm e)]at hob;exact h.heap o ob2 hob
theorem RR.repart (h:RR C φ σ a w){φ':Nat→Option Blk}{σ':St}{w':World}{b d:Nat}(hb:b<615)(hd:d<615)(ho:w'.os=w.os)(ht:w'.tape=w.tape)(hu:w'.output=w.output)(hs:w'.heap.size=w.heap.size)
  (hk:∀k,(∀B,φ b=some B→k≠B.b)→w'.heap[k]? = w.heap[k]?) (hot:∀o,o≠b→o≠d→φ' o=φ o)
  (hun:∀B' k,φ' b=some B'∨φ' d=some B'→B'.has k→∃B,(φ b=some B∨φ d=some B)∧B.has k)
  (hdis:∀Bb Bd k,φ' b=some Bb→φ' d=some Bd→Bb.has k→Bd.has k→b=d)
  (hdom:∀o B,φ' o=some B→∃ob,look σ'.hp o=some ob)
  (hpk:∀o ob,617≤o→look σ'.hp o=some ob→∃ob',look σ.hp o=some ob')
  (hfr:(∀k,Imm C φ w k→Imm C φ' w' k∧w'.heap[k]? = w.heap[k]?)→∀t v,look σ'.fr t=some v→∃x,a.tmps[t]? = some x∧Rep φ' (Imm C φ' w') w' x v)
  (hhp:(∀k,Imm C φ w k→Imm C φ' w' k∧w'.heap[k]? = w.heap[k]?)→(∀o B k,o≠b→φ o=some B→B.has k→w'.heap[k]? = w.heap[k]?)→∀o ob,look σ'.hp o=some ob→(∃B,φ' o=some B∧Qa0 φ' (Imm C φ' w') w' B ob)∨(φ' o=none∧∃z,ob=.arr z [])):
  RR C φ' σ' a w':=by
 have own:∀o B' k,φ' o=some B'→B'.has k→∃o1 B,φ o1=some B∧B.has k∧((o1=o∧o≠b∧o≠d)∨((o=b∨o=d)∧(o1=b∨o1=d))):=fun o B' k h1 h2=>by
  by_cases e1:o=b
  ·subst e1
   obtain⟨B,h3 | h3,h4⟩:=hun B' k (.inl h1) h2
   ·exact⟨_,B,h3,h4,.inr ⟨.inl rfl,.inl rfl⟩⟩
   exact⟨_,B,h3,h4,.inr ⟨.inl rfl,.inr rfl⟩⟩
  by_cases e2:o=d
  ·subst e2
   obtain⟨B,h3 | h3,h4⟩:=hun B' k (.inr h1) h2
   ·exact⟨_,B,h3,h4,.inr ⟨.inr rfl,.inl rfl⟩⟩
   exact⟨_,B,h3,h4,.inr ⟨.inr rfl,.inr rfl⟩⟩
  rw [hot o e1 e2]at h1;exact⟨o,B',h1,h2,.inl ⟨rfl,e1,e2⟩⟩
 have hI:∀k,Imm C φ w k→Imm C φ' w' k∧w'.heap[k]? = w.heap[k]? := fun k hk'=>by
  refine⟨⟨by rw [hs];exact hk'.1,hk'.2.1,fun o B' h1 h2=>?_⟩,hk k fun B hB e=>hk'.2.2 b B hB (.inl e)⟩
  obtain⟨o1,B,h3,h4,_⟩:=own o B' k h1 h2
  exact hk'.2.2 o1 B h3 h4
 have hoth:∀o B k,o≠b→φ o=some B→B.has k→w'.heap[k]? = w.heap[k]? := fun o B k hne h1 h2=>hk k fun B2 hB2 e=>hne (h.inj o b B B2 k h1 hB2 h2 (.inl e))
 refine⟨ho.trans h.os,ht.trans h.tape,hu.trans h.output,by rw [hs];exact h.size,fun k h1 h2=>?_,fun o o' B B' k h1 h2 h3 h4=>?_,hdom,fun o B k h1 h2=>?_,fun o B k h1 h2 h3=>?_,⟨fun o B h1 h2=>?_,fun o ob B h1 h2 h3=>by rw [hot o (by omega) (by omega)];obtain⟨ob',h4⟩:=hpk o ob h1 h2;exact h.stay.2 o ob' B h1 h4 h3⟩,h.tmps,h.defers.mono hI,hfr hI,hhp hI hoth⟩
 ·refine(hk k fun B hB e=>h2 ((h.lt b B k hB (.inl e)).2 h1)).trans (h.kept k h1 h2)
 ·obtain⟨o1,B1,g1,g2,g3⟩:=own o B k h1 h3
  obtain⟨o2,B2,g4,g5,g6⟩:=own o' B' k h2 h4
  have e:=h.inj o1 o2 B1 B2 k g1 g4 g2 g5
  rcases g3 with⟨e1,n1,n2⟩|⟨e1,e2⟩<;>rcases g6 with⟨e3,n3,n4⟩|⟨e3,e4⟩
  ·rw [←e1,←e3,e]
  ·rcases e4 with e4 | e4<;>simp_all
  ·rcases e2 with e2 | e2<;>simp_all
  rcases e1 with rfl | rfl<;>rcases e3 with rfl | rfl
  ·rfl
  ·exact hdis _ _ k h1 h2 h3 h4
  ·exact(hdis _ _ k h2 h1 h4 h3).symm
  rfl
 ·obtain⟨o1,B1,g1,g2,_⟩:=own o B k h1 h2
  have:=h.lt o1 B1 k g1 g2
  exact⟨by rw [hs];exact this.1,this.2⟩
 ·obtain⟨o1,B1,g1,g2,g3⟩:=own o B k h1 h2
  refine h.new o1 B1 k g1 g2 ?_
  rcases g3 with⟨e1,_⟩|⟨_,e1 | e1⟩<;>omega
 rw [hot o (by omega) (by omega)]at h2;exact h.stay.1 o B h1 h2
def Qxf (P:Program)(T:TypeId):Bool:=match P.info? T with
 | some i=>match i.zero with
  | some (.slice none 0 0)=>true
  | _=>false
 | none=>false
theorem QyH {T:TypeId}(h:Qxf P T=true):∃i,P.info? T=some i∧i.zero=some (.slice none 0 0):=by
 unfold Qxf at h
 split at h
 ·rename_i i hi
  split at h
  ·rename_i hz;exact⟨i,hi,hz⟩
  cases h
 cases h
theorem QiQ.sl {T:TypeId}{z:Nat}(h:Qxf P T=true):QiQ P T (.sl z []):=let ⟨i,h1,h2⟩:=QyH h;⟨i,_,h1,h2,fun _ _=>.sl0 _ _ _⟩
theorem QiQ.one {T:TypeId}{v:Value}(hi:((P.info? T).bind (·.zero))=some v):QiQ P T (Qgu v):=by
 obtain⟨i,h1,h2⟩:=Qmn.1 hi
 exact⟨i,v,h1,h2,fun _ _=>Dat.const v⟩
theorem Stp.lookupOut {T d b K E z n:Nat}{x y:Operand}{κ:Type}[DecidableEq κ]{e:κ→V}{val:κ→Value}{l:List (κ×List (List V))}{k:κ}{rows:List (List V)}(ho:o.op=.lookup T x y false)(hd:o.dst=some d)
  (hn:Nat.ble (d+1) C.n=true) (hx:σ.opd x=some (.map b)) (hb:look σ.hp b=some (.grp z (Qg2 e l) none)) (hy:σ.opd y=some (e k)) (hT:Qi7 P T=some (K,E)) (hk:Qdv P K e val)
  (hz:Qxf P E=true) (hpb:Nat.ble 615 b=false) (hpd:Nat.ble 615 d=false) (hbd:Nat.beq b d=false) (hrs:(Qv l k).getD []=rows) (hln:rows.length=n):
  Stp P C o σ ((((σ.kill d).set b (.grp z (Qg2 e l) (some (e k)))).set d (.arr z rows)).put d (.own d n)):=by
 refine Stp.val fun φ a w hr=>?_
 obtain⟨B,hB,he⟩:=(hr.opd hx).map_inv
 have hyv:a.eval y=val k:=hk.inv _ _ _ _ ((hr.opd hy).toDat (hk.edat k))
 obtain⟨D,hD,_⟩:=hk.d
 replace hbd:b≠d:=QfI (by rw [hbd];rfl)
 replace hr:=hr.kill d
 replace hb:look (σ.kill d).hp b=some (.grp z (Qg2 e l) none):=Qb0 _ _ _ hbd hb
 replace hB:del φ d b=some B:=by rw [QcU hbd];exact hB
 have hfd:del φ d d=none:=Qsd _ _
 generalize del φ d=φ at *
 generalize σ.kill d=σ at *
 have hlb:=Qsk hpb
 have hld:=Qsk hpd
 obtain⟨es,clock,bs,h1,h2,h3,h4,h5,h6,h7,h8,hrow,hall,hcase⟩:=Qcl.find hk hD (hr.block hB hb) k
 obtain⟨i,hi,hzx⟩:=QyH hz
 have others:∀{φ':Nat→Option Blk},(∀o B,φ o=some B→∃B',φ' o=some B'∧B'.b=B.b∧B'.cap=B.cap∧B'.z=B.z∧B'.off=B.off)→(∀o,o≠b→o≠d→φ' o=φ o)→(∀k,Imm C φ w k→Imm C φ' w k∧w.heap[k]? = w.heap[k]?)→
   ∀o ob,o≠b→o≠d→look σ.hp o=some ob→(∃B,φ' o=some B∧Qa0 φ' (Imm C φ' w) w B ob)∨(φ' o=none∧∃z,ob=.arr z []):=fun hh hot hI o ob n1 n2 hob=>by
  rcases hr.heap o ob hob with⟨B1,g1,g2⟩|⟨g1,g2⟩
  ·exact .inl ⟨B1,by rw [hot o n1 n2];exact g1,g2.heads hh hI fun _ _=>rfl⟩
  exact .inr ⟨by rw [hot o n1 n2];exact g1,g2⟩
 rcases hcase with⟨g1,g2,g3⟩|⟨j,xx,E0,rs,g1,g2,g3,g4,g5,g6⟩
 ·rw [g1]at hrs;simp only [Option.getD_none]at hrs;subst hrs
  subst hln
  refine⟨.slice none 0 0,w,φ,?_,?_⟩
  ·simp [execOp,ho,he,hyv,Instr.lookup,run_underlying (Qff hT),MapKept.run_getObj_map h1,MapKept.run_checkKey hD h8,MapKept.run_findKey hD g2,zeroValue,typeInfo,hi,hzx]
  rw [hd]
  have hh:∀o B,φ o=some B→∃B',φ o=some B'∧B'.b=B.b∧B'.cap=B.cap∧B'.z=B.z∧B'.off=B.off:=fun o B h=>⟨B,h,rfl,rfl,rfl,rfl⟩
  refine RR.put ?_ (Qab hn) (.own0 d)
  refine hr.repart hlb hld rfl rfl rfl rfl (fun _ _=>rfl) (fun _ _ _=>rfl) (fun B' k h1 h2=>⟨B',h1,h2⟩) (fun Bb Bd k u1 u2=>by rw [hfd]at u2;cases u2) (fun o B hB'=>?_) (fun o ob hge ho=>⟨ob,by rwa [St.look_set_other _ _ (by omega),St.look_set_other _ _ (by omega)]at ho⟩) (fun hI t v hv=>?_) (fun hI hoth o ob hob=>?_)
  ·by_cases e1:o=d
   ·subst e1;exact⟨_,St.look_set_same _ _ _⟩
   by_cases e2:o=b
   ·subst e2;exact⟨_,by rw [St.look_set_other _ _ (Ne.symm e1)];exact St.look_set_same _ _ _⟩
   obtain⟨ob,h'⟩:=hr.dom o B hB';exact⟨ob,by rw [St.look_set_other _ _ (Ne.symm e1),St.look_set_other _ _ (Ne.symm e2)];exact h'⟩
  ·obtain⟨x,hx,hrp⟩:=hr.frame t v hv
   exact⟨x,hx,hrp.heads hh hI⟩
  by_cases e1:o=d
  ·subst e1;rw [St.look_set_same]at hob;cases hob;exact .inr ⟨hfd,z,rfl⟩
  rw [St.look_set_other _ _ (Ne.symm e1)]at hob
  by_cases e2:o=b
  ·subst e2;rw [St.look_set_same]at hob;cases hob
   refine .inl ⟨B,hB,Qcl.of hk h1 h2 h3 h4 h5 h6 h7 (fun i x E hi hE=>?_) hall⟩
   obtain⟨q,hq,a1,⟨F,a2,a3,a4,a5,a6⟩|⟨_,a3⟩⟩:=hrow i x E hi hE
   ·refine⟨q,hq,a1,.inl ⟨F,a2,a3,fun e'=>?_,a5,a6⟩⟩
    have:=hk.einj _ _ (Option.some.inj e')
    exact g3 x (Qhc.2 ⟨i,by rw [Qmi];exact hi⟩) (by rw [a1,this])
   cases a3
  rw [St.look_set_other _ _ (Ne.symm e2)]at hob
  exact others hh (fun _ _ _=>rfl) hI o ob e2 e1 hob
 rw [g1]at hrs;simp only [QhC]at hrs;subst hrs
 obtain⟨⟨a,rs'⟩,hq,a1,⟨F,rfl,a3,a4,a5,a6⟩|⟨_,a3⟩⟩:=hrow j xx E0 g3 g4
 case inr=>cases a3
 have:a=k:=hk.inj _ _ (by rw [←a1,g5])
 subst this
 have m1:=Qll h3 hq
 rw [g1]at m1;cases m1
 subst hln
 have hperm:=QxP bs j F g4
 have hjlt:j<bs.length:=(QU.1 g4).1
 have hnd:(B.b::F.b::(bs.set j none).filterMap (Option.map Blk.b)).Nodup:=by rw [h6]at h7;exact(hperm.cons B.b).nodup_iff.1 h7
 have hnd':B.b≠F.b∧B.b ∉ (bs.set j none).filterMap (Option.map Blk.b)∧F.b ∉ (bs.set j none).filterMap (Option.map Blk.b)∧((bs.set j none).filterMap (Option.map Blk.b)).Nodup:=by
  simp only [Qft,QaP,not_or]at hnd
  exact⟨hnd.1.1,hnd.1.2,hnd.2.1,hnd.2.2⟩
 let B':Blk:=⟨B.b,B.cap,B.z,(bs.set j none).filterMap (Option.map Blk.b),B.off⟩
 let φ':=ext (ext φ b B') d F
 have pb:φ' b=some B':=by show ext (ext φ b B') d F b=_;rw [QG _ hbd,QQ]
 have pd:φ' d=some F:=QQ _ _ _
 have hot:∀o,o≠b→o≠d→φ' o=φ o:=fun o n1 n2=>by show ext (ext φ b B') d F o=_;rw [QG _ n2,QG _ n1]
 have hh:∀o B,φ o=some B→∃B',φ' o=some B'∧B'.b=B.b∧B'.cap=B.cap∧B'.z=B.z∧B'.off=B.off:=fun o B1 h=>by
  by_cases e1:o=b
  ·subst e1;rw [hB]at h;cases h;exact⟨B',pb,rfl,rfl,rfl,rfl⟩
  have e2:o≠d:=fun e'=>by subst e';rw [hfd]at h;cases h
  exact⟨B1,by rw [hot o e1 e2];exact h,rfl,rfl,rfl,rfl⟩
 have hFin:B.has F.b:=.inr (by rw [h6];exact Qr6 g4)
 refine⟨xx.val,w,φ',?_,?_⟩
 ·simp [execOp,ho,he,hyv,Instr.lookup,run_underlying (Qff hT),MapKept.run_getObj_map h1,MapKept.run_checkKey hD h8,MapKept.run_findKey hD g2]
 rw [hd,a6]
 refine RR.put ?_ (Qab hn) (.own d _ F pd a5.2.1)
 refine hr.repart hlb hld rfl rfl rfl rfl (fun _ _=>rfl) hot (fun B1 k u1 u2=>?_) (fun Bb Bd k u1 u2 u3 u4=>?_) (fun o B1 hB'=>?_) (fun o ob hge ho=>⟨ob,by rwa [St.look_set_other _ _ (by omega),St.look_set_other _ _ (by omega)]at ho⟩) (fun hI t v hv=>?_) (fun hI hoth o ob hob=>?_)
 ·refine⟨B,.inl hB,?_⟩
  rcases u1 with u1 | u1
  ·rw [pb]at u1;cases u1
   rcases u2 with u2 | u2
   ·exact .inl u2
   exact .inr (by rw [h6];exact hperm.mem_iff.2 (QaC _ u2))
  rw [pd]at u1;cases u1
  rcases u2 with u2 | u2
  ·rw [u2];exact hFin
  rw [a3]at u2;cases u2
 ·rw [pb]at u1;cases u1;rw [pd]at u2;cases u2
  exfalso
  have e1:k=F.b:=by
   rcases u4 with u4 | u4
   ·exact u4
   rw [a3]at u4;cases u4
  subst e1
  rcases u3 with u3 | u3
  ·exact hnd'.1 u3.symm
  exact hnd'.2.2.1 u3
 ·by_cases e1:o=d
  ·subst e1;exact⟨_,St.look_set_same _ _ _⟩
  by_cases e2:o=b
  ·subst e2;exact⟨_,by rw [St.look_set_other _ _ (Ne.symm e1)];exact St.look_set_same _ _ _⟩
  rw [hot o e2 e1]at hB'
  obtain⟨ob,h'⟩:=hr.dom o B1 hB';exact⟨ob,by rw [St.look_set_other _ _ (Ne.symm e1),St.look_set_other _ _ (Ne.symm e2)];exact h'⟩
 ·obtain⟨x,hx,hrp⟩:=hr.frame t v hv
  exact⟨x,hx,hrp.heads hh hI⟩
 by_cases e1:o=d
 ·subst e1;rw [St.look_set_same]at hob;cases hob;exact .inl ⟨F,pd,QaD.mono hI rfl a5⟩
 rw [St.look_set_other _ _ (Ne.symm e1)]at hob
 by_cases e2:o=b
 ·subst e2;rw [St.look_set_same]at hob;cases hob
  refine .inl ⟨B',pb,Qcl.of (bs:=bs.set j none) hk h1 h2 h3 h4 (by rw [List.length_set];exact h5) rfl (Qft.2 ⟨hnd'.2.1,hnd'.2.2.2⟩) (fun i x E hi hE=>?_) hall⟩
  by_cases e3:j=i
  ·subst e3
   rw [Qqh hjlt]at hE;cases hE
   rw [g3]at hi;cases hi
   exact⟨(a,rs),hq,a1,.inr ⟨rfl,rfl⟩⟩
  rw [QoH e3]at hE
  obtain⟨q,hq',c1,⟨G,c2,c3,c4,c5,c6⟩|⟨_,c3⟩⟩:=hrow i x E hi hE
  ·refine⟨q,hq',c1,.inl ⟨G,c2,c3,fun e'=>?_,QaD.mono hI rfl c5,c6⟩⟩
   have:=hk.einj _ _ (Option.some.inj e')
   exact e3 (g6 i x hi (by rw [c1,this])).symm
  cases c3
 rw [St.look_set_other _ _ (Ne.symm e2)]at hob
 exact others hh hot hI o ob e2 e1 hob
theorem Stp.updateBack {T d b K E z n:Nat}{x y u:Operand}{κ:Type}[DecidableEq κ]{e:κ→V}{val:κ→Value}{l:List (κ×List (List V))}{k:κ}{rows:List (List V)}(lt:κ→κ→Bool)(ho:o.op=.mapUpdate T x y u)(hd:o.dst=none)
  (hx:σ.opd x=some (.map b)) (hb:look σ.hp b=some (.grp z (Qg2 e l) (some (e k)))) (hy:σ.opd y=some (e k)) (hu:σ.opd u=some (.own d n)) (hdd:look σ.hp d=some (.arr z rows)) (hT:Qi7 P T=some (K,E)) (hk:Qdv P K e val)
  (hpb:Nat.ble 615 b=false) (hpd:Nat.ble 615 d=false) (hbd:Nat.beq b d=false) (hln:n=rows.length) (hne:rows≠[]):
  Stp P C o σ ((σ.kill d).set b (.grp z (Qg2 e (Qag lt l k rows)) none)):=by
 have hord:(σ.kill d).set b (.grp z (Qg2 e (Qag lt l k rows)) none)=(σ.set b (.grp z (Qg2 e (Qag lt l k rows)) none)).kill d:=by simp [St.kill,St.set,QeL,hbd,Ob.kill]
 rw [hord]
 refine Stp.skp fun φ a w hr=>?_
 obtain⟨B,hB,he⟩:=(hr.opd hx).map_inv
 have hyv:a.eval y=val k:=hk.inv _ _ _ _ ((hr.opd hy).toDat (hk.edat k))
 obtain⟨D,hD,_⟩:=hk.d
 replace hbd:b≠d:=QfI (by rw [hbd];rfl)
 have hlb:=Qsk hpb
 have hld:=Qsk hpd
 obtain⟨es,clock,bs,h1,h2,h3,h4,h5,h6,h7,h8,hrow,hall,hcase⟩:=Qcl.find hk hD (hr.block hB hb) k
 have hlt:B.b<w.heap.size:=(hr.lt b B _ hB B.self).1
 subst hln
 rcases(hr.opd hu).own_inv with⟨_,h0⟩|⟨E1,hE1,hcap,huv⟩
 ·exact absurd (Qmj.1 h0) hne
 have harr:=hr.block hE1 hdd
 let F:Blk:=⟨E1.b,E1.cap,E1.z,[],E1.off⟩
 have hFB:∀k,B.has k→k≠F.b:=fun k hk' e'=>hbd (hr.inj b d B E1 k hB hE1 hk' (.inl e'))
 have write:∀(es2:Array MapEntry) (clock2:Nat) (bs2:List (Option Blk)) (l2:List (κ×List (List V))),MapKept.Stamped es2 clock2→(l2.map Prod.fst).Nodup→es2.size=l2.length→bs2.length=l2.length→
   (bs2.filterMap (Option.map Blk.b)).Perm (F.b::B.more)→(∀(i:Nat) x E,es2[i]? = some x→bs2[i]? = some E→Qwl (Imm C φ w) w z e val none l2 x E)→(∀q∈l2,∃(i:Nat) (x:MapEntry),es2[i]? = some x∧x.key=val q.1)→
   ∃φ',RR C φ' ((σ.set b (.grp z (Qg2 e l2) none)).kill d) a { w with heap:=w.heap.setIfInBounds B.b (.map es2 clock2) }:=by
  intro es2 clock2 bs2 l2 s1 s2 s3 s4 s5 s6 s7
  let B':Blk:=⟨B.b,B.cap,B.z,bs2.filterMap (Option.map Blk.b),B.off⟩
  let φ1:=del φ d
  let φ':=ext φ1 b B'
  have pb:φ' b=some B':=QQ _ _ _
  have pd:φ' d=none:=by show ext (del φ d) b B' d=_;rw [QG _ (Ne.symm hbd),Qsd]
  have hot:∀o,o≠b→o≠d→φ' o=φ o:=fun o n1 n2=>by show ext (del φ d) b B' o=_;rw [QG _ n1,QcU n2]
  have hφ1:∀o B,o≠d→φ o=some B→φ1 o=some B:=fun o B n h=>by show del φ d o=_;rw [QcU n];exact h
  have hh:∀o B,φ1 o=some B→∃B',φ' o=some B'∧B'.b=B.b∧B'.cap=B.cap∧B'.z=B.z∧B'.off=B.off:=fun o B1 h=>by
   obtain⟨n1,h⟩:=QbM h
   by_cases e1:o=b
   ·subst e1;rw [hB]at h;cases h;exact⟨B',pb,rfl,rfl,rfl,rfl⟩
   exact⟨B1,by rw [hot o e1 n1];exact h,rfl,rfl,rfl,rfl⟩
  have hmem:∀k,k∈bs2.filterMap (Option.map Blk.b)↔k=F.b∨k∈B.more:=fun k=>by rw [s5.mem_iff,QaP]
  refine⟨φ',hr.repart hlb hld rfl rfl rfl (by simp) (fun k hk'=>Qej _ (hk' B hB)) hot (fun B1 k u1 u2=>?_) (fun Bb Bd k u1 u2=>by rw [pd]at u2;cases u2) (fun o B1 hB1=>?_) (fun o ob hge ho=>by obtain⟨_,ob',h',_⟩:=Qbq _ _ _ ho;exact⟨ob',by rwa [St.look_set_other _ _ (by omega)]at h'⟩) (fun hI t v hv=>?_) (fun hI hoth o ob hob=>?_)⟩
  ·rcases u1 with u1 | u1
   ·rw [pb]at u1;cases u1
    rcases u2 with u2 | u2
    ·exact⟨B,.inl hB,.inl u2⟩
    rcases(hmem k).1 u2 with u2 | u2
    ·exact⟨E1,.inr hE1,.inl u2⟩
    exact⟨B,.inl hB,.inr u2⟩
   rw [pd]at u1;cases u1
  ·have n1:o≠d:=fun e'=>by subst e';rw [pd]at hB1;cases hB1
   by_cases e1:o=b
   ·subst e1;exact⟨_,Qb0 _ _ _ n1 (St.look_set_same _ _ _)⟩
   rw [hot o e1 n1]at hB1
   obtain⟨ob,h'⟩:=hr.dom o B1 hB1
   exact⟨_,Qb0 _ _ _ n1 (by rw [St.look_set_other _ _ (Ne.symm e1)];exact h')⟩
  ·obtain⟨v',hv',rfl⟩:=Qi1 _ _ _ hv
   obtain⟨x,hx,hrp⟩:=hr.frame t v' hv'
   exact⟨x,hx,((hrp.kill (φ':=φ1) (I':=Imm C φ w) (w':=w) hφ1 fun k hk=>⟨hk,rfl⟩).heads hh hI)⟩
  obtain⟨n1,ob',hob',rfl⟩:=Qbq _ _ _ hob
  by_cases e1:o=b
  ·subst e1;rw [St.look_set_same]at hob';cases hob'
   refine .inl ⟨B',pb,Qcl.of hk (by simp [B',hlt]) s1 s2 s3 s4 rfl ?_ (fun i x E hi hE=>?_) s7⟩
   ·have h9:(B.b::F.b::B.more).Nodup:=by
     rw [Qft]at h7
     refine Qft.2 ⟨fun h=>?_,Qft.2 ⟨fun h=>hFB _ (.inr h) rfl,h7.2⟩⟩
     rcases QaP.1 h with h | h
     ·exact hFB _ B.self h
     exact h7.1 h
    exact(s5.cons B.b).nodup_iff.2 h9
   obtain⟨q,hq,a1,⟨G,a2,a3,a4,a5,a6⟩|⟨_,a3⟩⟩:=s6 i x E hi hE
   ·refine⟨q,hq,a1,.inl ⟨G,a2,a3,a4,QaD.mono hI (Qej _ ?_) a5,a6⟩⟩
    subst a2
    intro e'
    rcases(hmem G.b).1 (Qr6 hE)with h | h
    ·exact hFB _ B.self (by rw [←e',h])
    rw [Qft]at h7;exact h7.1 (by rw [←e'];exact h)
   cases a3
  rw [St.look_set_other _ _ (Ne.symm e1)]at hob'
  rcases hr.heap o ob' hob' with⟨B1,u1,u2⟩|⟨u1,zz,rfl⟩
  ·refine .inl ⟨B1,by rw [hot o e1 n1];exact u1,?_⟩
   have u3:=u2.kill (φ':=φ1) (I':=Imm C φ w) (w':=w) hφ1 (fun k hk=>⟨hk,rfl⟩) fun _ _=>rfl
   exact u3.heads hh hI fun k hk'=>hoth o B1 k e1 u1 hk'
  exact .inr ⟨by rw [hot o e1 n1];exact u1,zz,rfl⟩
 rcases hcase with⟨g1,g2,g3⟩|⟨j,xx,E0,rs,g1,g2,g3,g4,g5,g6⟩
 ·have hms:Qag lt l k rows=Qg1 lt l k rows:=by unfold Qag;rw [g1]
  have hmem:∀p,p∈Qg1 lt l k rows↔p=(k,rows)∨p∈l:=fun p=>by rw [(QnS lt l k rows).mem_iff,QaP]
  have hlen:(Qg1 lt l k rows).length=l.length+1:=by rw [(QnS lt l k rows).length_eq];rfl
  obtain⟨φ',hr'⟩:=write (es.push { key:=val k,val:=a.eval u,born:=clock }) (clock+1) (bs++[some F]) (Qag lt l k rows) (MapKept.stamped_push h2 g3) (Qsj lt h3) (by rw [hms,hlen];simp [h4]) (by rw [hms,hlen];simp [h5])
   (by rw [List.filterMap_append,h6];exact List.perm_append_comm) (fun i x E hi hE=>by
    rw [hms]
    by_cases hil:i<es.size
    ·rw [Array.getElem?_push_lt hil]at hi
     rw [Qbu (by omega)]at hE
     obtain⟨q,hq,a1,⟨G,a2,a3,a4,a5,a6⟩|⟨_,a3⟩⟩:=hrow i x E (by rw [QfW hil];exact hi) hE
     ·exact⟨q,(hmem q).2 (.inr hq),a1,.inl ⟨G,a2,a3,(by simp),a5,a6⟩⟩
     have:=hk.einj _ _ (Option.some.inj a3)
     exact absurd (by rw [a1,this]) (g3 x (Qhc.2 ⟨i,by rw [Qmi,QfW hil];exact hi⟩))
    have:i=es.size:=by
     have:=(QfX.1 hi).1
     simp at this;omega
    subst this
    rw [Array.getElem?_push_size]at hi;cases hi
    have hsz:es.size=bs.length:=by rw [h4,h5]
    rw [hsz,QcJ (QbT _)]at hE
    simp at hE;subst hE
    exact⟨(k,rows),(hmem _).2 (.inl rfl),rfl,.inl ⟨F,rfl,rfl,(by simp),harr,huv⟩⟩)
   (fun q hq=>by
    rw [hms]at hq
    rcases(hmem q).1 hq with rfl | hq
    ·exact⟨es.size,_,Array.getElem?_push_size,rfl⟩
    obtain⟨i,x,hi,a1⟩:=hall q hq
    have hil:=(QfX.1 hi).1
    exact⟨i,x,by rw [Array.getElem?_push,if_neg (by omega)];exact hi,a1⟩)
  refine⟨_,φ',?_,by rw [hd];exact hr'⟩
  simp [execOp,ho,he,hyv,Instr.mapUpdate,run_underlying (Qff hT),MapKept.run_getObj_map h1,MapKept.run_checkKey hD h8,MapKept.run_findKey hD g2,MapKept.run_setObj_map _ h1]
 have hms:Qag lt l k rows=QhF l k rows:=by unfold Qag;rw [g1]
 have hmem:=QyG h3 ⟨rs,Qsh g1⟩ (v:=rows)
 have hlen:(QhF l k rows).length=l.length:=by have:=congrArg List.length (Qsi l k rows);simpa using this
 have hjlt:j<es.size:=(QfX.1 g3).1
 have hjb:j<bs.length:=(QU.1 g4).1
 have hE0:E0=none:=by
  obtain⟨q,hq,a1,⟨G,a2,a3,a4,_⟩|⟨a3,_⟩⟩:=hrow j xx E0 g3 g4
  ·exact absurd (congrArg (fun u=>some (e u)) (hk.inj _ _ (by rw [←a1,g5]:val q.1=val k)).symm) a4
  exact a3
 subst hE0
 have hmod:∀i:Nat,(es.modify j fun x=>{ x with key:=val k,val:=a.eval u })[i]? = if i=j then some { xx with key:=val k,val:=a.eval u }else es[i]? := fun i=>by
  rw [Qw9]
  by_cases hij:j=i
  ·subst hij;simp [g3]
  rw [if_neg hij,if_neg (Ne.symm hij)]
 obtain⟨φ',hr'⟩:=write (es.modify j fun x=>{ x with key:=val k,val:=a.eval u }) clock (bs.set j (some F)) (Qag lt l k rows) (MapKept.stamped_modify h2 _ _ (fun _ _=>rfl) fun x _ hx=>by rw [g3]at hx;cases hx;exact g5.symm)
  (Qsj lt h3) (by rw [hms,Array.size_modify,h4,hlen]) (by rw [hms,List.length_set,h5,hlen]) (by rw [h6];exact QA9 bs j F g4) (fun i x E hi hE=>by
   rw [hms]
   rw [hmod]at hi
   split at hi
   ·rename_i hij
    subst hij
    cases hi
    rw [Qqh hjb]at hE;cases hE
    exact⟨(k,rows),(hmem _).2 (.inl rfl),rfl,.inl ⟨F,rfl,rfl,(by simp),harr,huv⟩⟩
   rename_i hij
   rw [QoH (Ne.symm hij)]at hE
   obtain⟨q,hq,a1,⟨G,a2,a3,a4,a5,a6⟩|⟨_,a3⟩⟩:=hrow i x E hi hE
   ·exact⟨q,(hmem q).2 (.inr ⟨hq,fun e'=>hij (g6 i x hi (by rw [a1,e']))⟩),a1,.inl ⟨G,a2,a3,(by simp),a5,a6⟩⟩
   have:=hk.einj _ _ (Option.some.inj a3)
   exact absurd (g6 i x hi (by rw [a1,this])) hij)
  (fun q hq=>by
   rw [hms]at hq
   rcases(hmem q).1 hq with rfl | ⟨hq,hne'⟩
   ·exact⟨j,_,by rw [hmod,if_pos rfl],rfl⟩
   obtain⟨i,x,hi,a1⟩:=hall q hq
   have hij:i≠j:=fun e'=>by
    subst e'
    rw [g3]at hi;cases hi
    exact hne' (hk.inj _ _ (by rw [←a1,g5]))
   exact⟨i,x,by rw [hmod,if_neg hij];exact hi,a1⟩)
 refine⟨_,φ',?_,by rw [hd];exact hr'⟩
 simp [execOp,ho,he,hyv,Instr.mapUpdate,run_underlying (Qff hT),MapKept.run_getObj_map h1,MapKept.run_checkKey hD h8,MapKept.run_findKey hD g2,MapKept.run_setObj_map _ h1,g3,g5,MapKept.run_keyThatStays h8]
theorem R.grpMap {b z K:Nat}{κ:Type}[DecidableEq κ]{e:κ→V}{val:κ→Value}{l:List (κ×List (List V))}(hk:Qdv P K e val)(hp:Nat.ble 615 b=false)(h:R C σ a w)(hb:look σ.hp b=some (.grp z (Qg2 e l) none)):
  R C (σ.set b (.map (QA e (V.sl z) l))) a w:=by
 obtain⟨φ,h⟩:=h
 have hlt:b<615:=by
  rcases QeB b 615 with h | h
  ·exact h
  rw [Qml h]at hp;cases hp
 rcases h.heap b _ hb with⟨B,hB,hrep⟩|⟨_,z',h2⟩
 ·let B':Blk:=⟨B.b,B.cap,B.z,[],B.off⟩
  have hB':∀k,B'.has k→k=B.b:=fun k hk=>hk.elim id (fun h=>by cases h)
  have hI:∀k,Imm C φ w k→Imm C (ext φ b B') w k∧w.heap[k]? = w.heap[k]? := fun k hk=>⟨⟨hk.1,hk.2.1,fun o B1 h1 hh=>by
   by_cases e:o=b
   ·subst e;rw [QQ]at h1;cases h1
    exact hk.2.2 o B hB (.inl (hB' k hh))
   rw [QG _ e]at h1;exact hk.2.2 o B1 h1 hh⟩,rfl⟩
  have hmore:∀k,k∈B.more→k≠B.b→Imm C (ext φ b B') w k:=fun k hk hne=>by
   refine⟨(h.lt b B k hB (.inr hk)).1,fun hlt'=>?_,fun o B1 h1 hh=>?_⟩
   ·have:=h.new b B k hB (.inr hk) hlt;omega
   by_cases e:o=b
   ·subst e;rw [QQ]at h1;cases h1;exact hne (hB' k hh)
   rw [QG _ e]at h1;exact e (h.inj o b B1 B k h1 hB hh (.inr hk))
  have hrepV:∀{x:Value} {v:V},Rep φ (Imm C φ w) w x v→Rep (ext φ b B') (Imm C (ext φ b B') w) w x v:=by
   intro x v hr
   induction hr with
   | dat d=>exact .dat (d.mono hI)
   | own0 p=>exact .own0 p
   | own p n B1 h1 hn=>
    by_cases e:p=b
    ·subst e;rw [hB]at h1;cases h1
     exact Rep.own (φ:=ext φ p B') p n B' (QQ _ _ _) hn
    exact .own p n B1 (by rw [QG _ e];exact h1) hn
   | loc p i d B1 h1=>
    by_cases e:p=b
    ·subst e;rw [hB]at h1;cases h1
     exact Rep.loc (φ:=ext φ p B') p i d B' (QQ _ _ _)
    exact .loc p i d B1 (by rw [QG _ e];exact h1)
   | map p B1 h1=>
    by_cases e:p=b
    ·subst e;rw [hB]at h1;cases h1
     exact Rep.map (φ:=ext φ p B') p B' (QQ _ _ _)
    exact .map p B1 (by rw [QG _ e];exact h1)
   | agg xs cs hs _ ih=>exact .agg xs cs hs ih
   | tup xs cs hs _ ih=>exact .tup xs cs hs ih
   | ifc t x v _ ih=>exact .ifc t x v ih
   | clo fn xs ys vs us h1 h2 _ _ ih1 ih2=>exact .clo fn xs ys vs us h1 h2 ih1 ih2
  refine⟨ext φ b B',h.os,h.tape,h.output,h.size,h.kept,fun o1 o2 B1 B2 k e1 e2 b1 b2=>?_,fun o B1 h1=>?_,fun o B1 k h1 hk=>?_,fun o B1 k h1 hk hl=>?_,⟨fun o B1 hge h1=>?_,fun o ob B1 hge ho hB1=>by rw [QG _ (by omega)];rw [σ.look_set_other _ (by omega)]at ho;exact h.stay.2 o ob B1 hge ho hB1⟩,h.tmps,h.defers.mono hI,fun t v hv=>?_,fun o ob hob=>?_⟩
  ·have up:∀o B1,ext φ b B' o=some B1→B1.has k→∃B2,φ o=some B2∧B2.has k:=fun o B1 h1 hk=>by
    by_cases e:o=b
    ·subst e;rw [QQ]at h1;cases h1;exact⟨B,hB,.inl (hB' k hk)⟩
    rw [QG _ e]at h1;exact⟨B1,h1,hk⟩
   obtain⟨_,u1,u2⟩:=up o1 B1 e1 b1
   obtain⟨_,u3,u4⟩:=up o2 B2 e2 b2
   exact h.inj o1 o2 _ _ k u1 u3 u2 u4
  ·by_cases e:o=b
   ·subst e;exact⟨_,σ.look_set_same _ _⟩
   rw [QG _ e]at h1;obtain⟨ob,h2⟩:=h.dom o B1 h1;exact⟨ob,by rw [σ.look_set_other _ (Ne.symm e)];exact h2⟩
  ·by_cases e:o=b
   ·subst e;rw [QQ]at h1;cases h1;exact h.lt o B k hB (.inl (hB' k hk))
   rw [QG _ e]at h1;exact h.lt o B1 k h1 hk
  ·by_cases e:o=b
   ·subst e;rw [QQ]at h1;cases h1;exact h.new o B k hB (.inl (hB' k hk)) hl
   rw [QG _ e]at h1;exact h.new o B1 k h1 hk hl
  ·rw [QG _ (by omega)]at h1;exact h.stay.1 o B1 hge h1
  ·obtain⟨x,hx,hr⟩:=h.frame t v hv
   exact⟨x,hx,hrepV hr⟩
  by_cases eo:o=b
  ·subst eo;rw [σ.look_set_same]at hob;cases hob
   obtain⟨es,clock,h1,h2,h3,h4,bs,h5,h6,h7,h8,h9⟩:=hrep
   have hrow:∀(i:Nat) (x:MapEntry),es[i]? = some x→∃q∈l,Dat (Imm C (ext φ o B') w) w x.key (e q.1)∧Dat (Imm C (ext φ o B') w) w x.val (.sl z q.2):=fun i x hi=>by
    have hlt:i<bs.length:=by rw [h5,←h4];exact(QfX.1 hi).1
    have hbi:bs[i]? = some bs[i]:=QB hlt
    obtain⟨p,hp,a1,⟨F,a0,_,_,a2,a3⟩|⟨_,a2⟩⟩:=h8 i x _ hi hbi
    case inr=>cases a2
    rw [a0]at hbi
    obtain⟨q,hq,rfl⟩:=QaQ.1 hp
    refine⟨q,hq,a1.mono hI,?_⟩
    rw [a3]
    obtain⟨b1,b2,b3,cs,E,b4,b5,b6⟩:=a2
    have hin:F.b∈B.more:=by rw [h6];exact Qr6 hbi
    have hne:F.b≠B.b:=fun e'=>by rw [Qft]at h7;exact h7.1 (by rw [←e'];exact hin)
    by_cases h0:q.2=[]
    ·show Dat _ w (.slice _ q.2.length _) _
     rw [h0];exact .sl0 _ _ _
    refine .sl F.b F.off q.2.length F.cap z q.2 (fun j=>cs.getD (F.off+j) undef) (hmore _ hin hne) rfl b2 b3 (fun j hj=>?_) (fun k r hk j v hj=>?_)
    ·have hle2:q.2.length*z≤F.cap*z:=Qcw _ b2
     have:F.off+j<cs.size:=by omega
     simp [World.cell?,b4,Array.getD,this]
    obtain⟨y,hy,hd⟩:=b6 k r hk j v hj
    have:cs.getD (F.off+(k*z+j)) undef=y:=by simp [Qo4,hy]
    rw [this];exact hd.mono hI
   refine .inl ⟨B',QQ _ _ _,es,clock,h1,h2,(QoP hk.einj).2 ((QoQ hk.einj).1 h3),by simpa [QA,Qg2] using h4,fun x hx=>?_,fun p hp=>?_⟩
   ·obtain⟨i,hi⟩:=Qhc.1 hx
    rw [Qmi]at hi
    obtain⟨q,hq,c1,c2⟩:=hrow i x hi
    exact⟨_,QaQ.2 ⟨q,hq,rfl⟩,c1,c2⟩
   obtain⟨q,hq,rfl⟩:=QaQ.1 hp
   obtain⟨i,x,hi,d1⟩:=h9 (e q.1,q.2) (QaQ.2 ⟨q,hq,rfl⟩)
   obtain⟨q',hq',c1,c2⟩:=hrow i x hi
   have h11:q'.1=q.1:=hk.inj _ _ (by rw [←hk.inv _ _ _ _ c1,←hk.inv _ _ _ _ d1])
   have hn:=(QoQ hk.einj).1 h3
   have m1:=Qll hn (show(q.1,q'.2)∈l by rw [←h11];exact hq')
   have m2:=Qll hn (show(q.1,q.2)∈l from hq)
   have h12:q'.2=q.2:=by rw [m1]at m2;exact Option.some.inj m2
   exact⟨x,Qhc.2 ⟨i,by rw [Qmi];exact hi⟩,by rw [←h11];exact c1,by rw [←h12];exact c2⟩
  rw [σ.look_set_other _ (Ne.symm eo)]at hob
  rcases h.heap o ob hob with⟨B1,h1,hr⟩|⟨h1,h2⟩
  ·refine .inl ⟨B1,by rw [QG _ eo];exact h1,?_⟩
   cases ob with
   | var vs=>
    obtain⟨cs,E,a1,a2,a0,a3⟩:=hr
    exact⟨cs,E,a1,a2,a0,fun j x v hx hv=>hrepV (a3 j x v hx hv)⟩
   | lp l K vs q=>
    obtain⟨tmps,D,e0,a1,a2,a3,a4⟩:=hr
    exact⟨tmps,D,e0,a1,a2,a3,fun j x v hx hv=>hrepV (a4 j x v hx hv)⟩
   | arr z rs=>exact QaD.mono hI rfl hr
   | map l=>exact Qdn.mono hI rfl hr
   | grp z l lk=>exact Qcl.mono hI (fun _ _=>rfl) hr
   | mapX bm clock L l=>exact QeX.mono hI rfl hr
   | itr bm since seen cur=>exact hr
   | itr0=>exact hr
  exact .inr ⟨by rw [QG _ eo];exact h1,h2⟩
 cases h2
end
def Qmr {κ α:Type}(f:α→List V)(l:List (κ×List α)):List (κ×List (List V)):=l.map fun p=>(p.1,p.2.map f)
def Qnc {κ α:Type}(e:κ→V)(f:α→List V)(l:List (κ×List α)):List (V×List (List V)):=Qg2 e (Qmr f l)
theorem QxQ {κ α:Type}[DecidableEq κ](f:α→List V)(l:List (κ×List α))(k:κ):Qv (Qmr f l) k=(Qv l k).map (List.map f):=by
 induction l with
 | nil=>rfl
 | cons p l ih=>simp only [Qmr,QeA,Qv]at ih ⊢;split<;>simp_all
theorem QBa {κ α:Type}[DecidableEq κ](f:α→List V)(l:List (κ×List α))(k:κ)(rows:List α):QhF (Qmr f l) k (rows.map f)=Qmr f (QhF l k rows):=by
 induction l with
 | nil=>rfl
 | cons p l ih=>simp only [Qmr,QeA,QhF]at ih ⊢;split<;>simp_all
theorem QBb {κ α:Type}(lt:κ→κ→Bool)(f:α→List V)(l:List (κ×List α))(k:κ)(rows:List α):Qg1 lt (Qmr f l) k (rows.map f)=Qmr f (Qg1 lt l k rows):=by
 induction l with
 | nil=>rfl
 | cons p l ih=>simp only [Qmr,QeA,Qg1]at ih ⊢;split<;>simp_all
theorem QBc {κ α:Type}[DecidableEq κ](lt:κ→κ→Bool)(f:α→List V)(l:List (κ×List α))(k:κ)(rows:List α):Qag lt (Qmr f l) k (rows.map f)=Qmr f (Qag lt l k rows):=by
 unfold Qag
 rw [QxQ]
 cases Qv l k with
 | none=>exact QBb lt f l k rows
 | some v=>exact QBa f l k rows
section
variable {P:Program}{C:Ctx}{σ:St}{o:Oper}{a:Act}{w:World}
theorem Stp.lookupOutT {T d b K E z n:Nat}{x y:Operand}{κ α:Type}[DecidableEq κ]{e:κ→V}{f:α→List V}{val:κ→Value}{l:List (κ×List α)}{k:κ}{rows:List (List V)}(ho:o.op=.lookup T x y false)(hd:o.dst=some d)
  (hn:Nat.ble (d+1) C.n=true) (hx:σ.opd x=some (.map b)) (hb:look σ.hp b=some (.grp z (Qnc e f l) none)) (hy:σ.opd y=some (e k)) (hT:Qi7 P T=some (K,E)) (hk:Qdv P K e val)
  (hz:Qxf P E=true) (hpb:Nat.ble 615 b=false) (hpd:Nat.ble 615 d=false) (hbd:Nat.beq b d=false) (hrs:((Qv l k).getD []).map f=rows) (hln:((Qv l k).getD []).length=n):
  Stp P C o σ ((((σ.kill d).set b (.grp z (Qnc e f l) (some (e k)))).set d (.arr z rows)).put d (.own d n)):=
 Stp.lookupOut ho hd hn hx hb hy hT hk hz hpb hpd hbd (by rw [QxQ,←hrs];cases Qv l k<;>rfl) (by rw [←hrs,QgG];exact hln)
theorem Stp.updateBackT {T d b K E z n:Nat}{x y u:Operand}{κ α:Type}[DecidableEq κ]{e:κ→V}{f:α→List V}{val:κ→Value}{l:List (κ×List α)}{k:κ}(rows:List α){rs:List (List V)}(lt:κ→κ→Bool)(ho:o.op=.mapUpdate T x y u)(hd:o.dst=none)
  (hx:σ.opd x=some (.map b)) (hb:look σ.hp b=some (.grp z (Qnc e f l) (some (e k)))) (hy:σ.opd y=some (e k)) (hu:σ.opd u=some (.own d n)) (hdd:look σ.hp d=some (.arr z rs)) (hT:Qi7 P T=some (K,E)) (hk:Qdv P K e val)
  (hpb:Nat.ble 615 b=false) (hpd:Nat.ble 615 d=false) (hbd:Nat.beq b d=false) (hrs:rs=rows.map f) (hln:n=rows.length) (hne:rows≠[]):
  Stp P C o σ ((σ.kill d).set b (.grp z (Qnc e f (Qag lt l k rows)) none)):=by
 subst hrs
 show Stp P C o σ ((σ.kill d).set b (.grp z (Qg2 e (Qmr f (Qag lt l k rows))) none))
 rw [←QBc]
 exact Stp.updateBack lt ho hd hx hb hy hu hdd hT hk hpb hpd hbd (by rw [QgG];exact hln) (fun h=>hne (List.map_eq_nil_iff.1 h))
theorem R.grpMapT {b z K:Nat}{κ α:Type}[DecidableEq κ]{e:κ→V}{f:α→List V}{val:κ→Value}{l:List (κ×List α)}(hk:Qdv P K e val)(hp:Nat.ble 615 b=false)(h:R C σ a w)(hb:look σ.hp b=some (.grp z (Qnc e f l) none)):
  R C (σ.set b (.map (QA e (fun x=>V.sl z (x.map f)) l))) a w:=by
 have:=R.grpMap hk hp h hb
 rwa [show QA e (V.sl z) (Qmr f l)=QA e (fun x=>V.sl z (x.map f)) l by simp [QA,Qmr]]at this
end
end Go.Vm
namespace Go.Vm
open Go Go.RowKit
theorem Qc.toData {P:Program}{f:FuncId}{us:List V}{z:Nat}{rows:List (List V)}(h:Qc P f us [] (QyB z rows)):Qc P f us [] (fun v _=>v=.sl z rows):=by
 intro S φ w vals hi hG
 refine(h S φ w vals hi hG).mono ?_
 rintro e w' ⟨x,v,hs',φ',rfl,⟨o,rfl,hl⟩,ho⟩
 have hφ:∀o B,φ o≠some B:=fun o B hB=>by obtain⟨ob,h⟩:=(hi.dom o B hB).2.2;cases h
 have hA:∀k,Aft S φ' w w' k→Aft S (fun _=>none) w w' k:=fun k hk=>⟨hk.1,hk.2.1,fun _ _ h=>by cases h⟩
 refine⟨x,.sl z rows,[],fun _=>none,rfl,rfl,ho.os,ho.tape,ho.output,ho.size,ho.kept,fun _ _ _ _ _ h=>(by cases h),fun _ _ h=>(by cases h),fun _ _ _ h=>(by cases h),fun _ _ _ h=>(by cases h),⟨fun _ _ _ h=>(by cases h),fun _ _ _ _ h=>(by cases h)⟩,?_,fun _ _ h=>(by cases h)⟩
 rcases ho.heap o _ hl with⟨B,hB,hrep⟩|⟨hn,z',hz⟩
 ·rcases ho.rep.own_inv with⟨rfl,h0⟩|⟨B',hB',hcap,rfl⟩
  ·have:rows=[]:=Qmj.1 h0
   subst this;exact .dat (.sl0 _ _ _)
  rw [hB]at hB';cases hB'
  obtain⟨rfl,hrl,hok,cs,E,h1,h2,h3⟩:=hrep
  refine .dat (.sl B.b B.off rows.length B.cap B.z rows (fun j=>cs.getD (B.off+j) undef) ⟨(ho.lt o B B.b hB B.self).1,fun hlt=>?_,fun _ _ h=>by cases h⟩ rfl hcap hok (fun j hj=>?_) (fun i r hi j v hj=>?_))
  ·obtain⟨o',B',h4,_⟩:=(ho.lt o B B.b hB B.self).2 hlt
   exact absurd h4 (hφ _ _)
  ·have hle2:rows.length*B.z≤B.cap*B.z:=Qcw _ hcap
   have:B.off+j<cs.size:=by omega
   simp [World.cell?,h1,Array.getD,this]
  obtain⟨y,hy,hd⟩:=h3 i r hi j v hj
  have:cs.getD (B.off+(i*B.z+j)) undef=y:=by simp [Qo4,hy]
  rw [this]
  exact hd.mono fun k hk=>⟨hA k hk,rfl⟩
 cases hz
 rcases ho.rep.own_inv with⟨rfl,h0⟩|⟨B',hB',hcap,rfl⟩
 ·exact .dat (.sl0 _ _ _)
 rw [hn]at hB';cases hB'
structure Tab where
 ag:List (Nat×Bool)
 sz:List (Nat×Nat)
 fo:List (Nat×List Nat)
 sp:List (Nat×List (Nat×Nat))
 es:List (Nat×(Nat×Nat×Nat))
 ar:List (Nat×(Nat×Nat))
 zv:List (Nat×List V)
 sb:List Nat
 bo:List Nat
 cc:List Nat
 en:List Nat
def foB (P:Program)(t:Nat):List Nat→Nat→Bool
 | [],_=>true
 | off::r,i=>(match QlR P t i with | some k=>Nat.beq k off | none=>false)&&foB P t r (i+1)
def Tab.okB (P:Program)(T:Tab):Bool:=
 T.ag.all (fun p=>Qg0 P p.1==some p.2)&&T.sz.all (fun p=>QgJ P p.1==some p.2)&&T.fo.all (fun p=>foB P p.1 p.2 0)&&T.sp.all (fun p=>Qsa P p.1==some p.2) &&
 T.es.all (fun p=>QaL P p.1==some p.2)&&T.ar.all (fun p=>Qqo P p.1==some p.2)&&T.sb.all (Qr9 P)&&T.bo.all (Qwg P)&&T.cc.all (QuC P)&&T.en.all (Qq4 P)
structure Qdw (P:Program) (T:Tab):Prop where
 ag:∀{t b},look T.ag t=some b→Qg0 P t=some b
 sz:∀{t b},look T.sz t=some b→QgJ P t=some b
 fo:∀{t l},look T.fo t=some l→∀{i:Nat} {k:Nat},l[i]? = some k→QlR P t i=some k
 sp:∀{t b},look T.sp t=some b→Qsa P t=some b
 es:∀{t b},look T.es t=some b→QaL P t=some b
 ar:∀{t b},look T.ar t=some b→Qqo P t=some b
 zv:∀{t b},look T.zv t=some b→Qap P t=some b
 sb:∀{t},Qad T.sb t=true→Qr9 P t=true
 bo:∀{t},Qad T.bo t=true→Qwg P t=true
 cc:∀{t},Qad T.cc t=true→QuC P t=true
 en:∀{t},Qad T.en t=true→Qq4 P t=true
theorem QDC {P:Program}{t:Nat}:∀{l:List Nat} {j:Nat},foB P t l j=true→∀{i k:Nat},l[i]? = some k→QlR P t (j+i)=some k:=by
 intro l
 induction l with
 | nil=>intro j _ i k h;simp at h
 | cons off r ih=>
  intro j h i k hk
  rw [foB,QE]at h
  cases i with
  | zero=>
   simp at hk;subst hk
   have:=h.1
   split at this
   ·rename_i k' hk';rw [QnE,hk',QaF this]
   cases this
  | succ i=>simp at hk;have:=ih h.2 hk;rwa [show j+(i+1)=j+1+i by omega]
theorem Tab.ok {P:Program}{T:Tab}(h:T.okB P=true)(hz:∀p∈T.zv,Qap P p.1=some p.2):Qdw P T:=by
 simp only [Tab.okB,QE,Qah,beq_iff_eq]at h
 obtain⟨⟨⟨⟨⟨⟨⟨⟨⟨h1,h2⟩,h3⟩,h4⟩,h5⟩,h6⟩,h7⟩,h8⟩,h9⟩,h10⟩:=h
 exact⟨fun e=>h1 _ (Qbd e),fun e=>h2 _ (Qbd e),fun e i k hk=>by have:=QDC (h3 _ (Qbd e)) hk;rwa [QoL]at this,fun e=>h4 _ (Qbd e),
  fun e=>h5 _ (Qbd e),fun e=>h6 _ (Qbd e),fun e=>hz _ (Qbd e),fun e=>h7 _ (Qj1.1 e),fun e=>h8 _ (Qj1.1 e),fun e=>h9 _ (Qj1.1 e),fun e=>h10 _ (Qj1.1 e)⟩
inductive Mode where
 | d
 | n (z:Nat)
 | o (us:List (List V))
inductive Qj2 where
 | no
 | row (r:List V)
 | ix
 | rows (rs:List (List V))
 | ln (n:Nat)
 | num (r:Int)
 | bd (ms:List (Option Nat))
 | c (g:Bool) (ms:List Mode) (r:V)
 | co (g:Bool) (ms:List Mode) (z:Nat) (rows:List (List V)) (m:Nat)
 | cd (g:Bool) (ms:List Mode) (z:Nat) (rows:List (List V)) (m:Nat)
 | any (v:V) (ob:Option Ob)
structure Rs where
 v:V
 ob:Option Ob
 φ:Option Prop
def Rs.holds (r:Rs):Prop:=match r.φ with
 | none=>True
 | some p=>p
def evs (f:Operand→Option V):List Operand→Option (List V)
 | []=>some []
 | x::r=>match f x with
  | some v=>match evs f r with
   | some vs=>some (v::vs)
   | none=>none
  | none=>none
def evp (f:Operand→Option V):List (Nat×Operand)→Option (List (Nat×V))
 | []=>some []
 | (i,x)::r=>match f x with
  | some v=>match evp f r with
   | some vs=>some ((i,v)::vs)
   | none=>none
  | none=>none
def Qz6 (hp:Nat→Option Ob)(g:Bool)(m:Mode)(v:V):Option (V×Option Prop):=match m with
 | .d=>bif v.datA then some (v,none)else none
 | .n z=>match v with
  | .lit (.slice none 0 0)=>some (.sl z [],none)
  | _=>none
 | .o us=>match v with
  | .own b n=>match hp b with
   | some (.arr z rs)=>bif g then some (.sl z us,some (n≤rs.length∧rs.take n=us))else none
   | _=>none
  | _=>none
def QFs (φ:Option Prop)(p:Prop):Prop:=match φ with
 | none=>p
 | some q=>q∧p
def Qrn (hp:Nat→Option Ob)(g:Bool):List Mode→List V→Option (List V×(Prop→Prop))
 | [],[]=>some ([],id)
 | m::ms,v::vs=>match Qz6 hp g m v with
  | some (u,φ)=>match Qrn hp g ms vs with
   | some (us,k)=>some (u::us,fun p=>QFs φ (k p))
   | none=>none
  | none=>none
 | _,_=>none
def ikB : IntKind→IntKind→Bool
 | .i8,.i8 | .i16,.i16 | .i32,.i32 | .i64,.i64 | .u8,.u8 | .u16,.u16 | .u32,.u32 | .u64,.u64=>true
 | _,_=>false
theorem QyI {a b:IntKind}(h:ikB a b=true):a=b:=by cases a<;>cases b<;>first | rfl | cases h
def QCm (T:Tab)(op:BinOp)(Tx:TypeId):V→V→Option Rs
 | .i k m,.i k' n=>bif ikB k k' then match op with
  | .quo=>some ⟨.i k (k.wrap (m.tdiv n)),none,some (n≠0)⟩
  | .rem=>some ⟨.i k (m.tmod n),none,some (n≠0)⟩
  | op=>match Qz2 op k m n with
   | some v=>some ⟨v,none,none⟩
   | none=>none
  else none
 | .b m,.b n=>bif Qad T.bo Tx then match op with
  | .eql=>some ⟨.b (m==n),none,none⟩
  | .neq=>some ⟨.b (m != n),none,none⟩
  | _=>none
  else none
 | .s m,.s n=>match op with
  | .eql=>some ⟨.b (Qij m n),none,none⟩
  | .neq=>some ⟨.b (!Qij m n),none,none⟩
  | _=>none
 | _,_=>none
def unV (op:UnOp):V→Option Rs
 | .b t=>match op with
  | .not=>some ⟨.b (!t),none,none⟩
  | _=>none
 | .i k m=>match op with
  | .neg=>some ⟨.i k (k.wrap (0-m)),none,none⟩
  | _=>none
 | _=>none
def QtC (T:Tab)(Tx:TypeId)(cs:List V)(off:Nat)(φ:Option Prop):Option Rs:=
 match look T.ag Tx with
 | some true=>match look T.sz Tx with
  | some n=>bif Nat.ble (off+n) cs.length then some ⟨.agg ((cs.drop off).take n),none,φ⟩else none
  | none=>none
 | some false=>match cs[off]? with
  | some v=>some ⟨v,none,φ⟩
  | none=>none
 | none=>none
def Qz7 (T:Tab)(h:Qj2)(Tx:TypeId)(hp:Nat→Option Ob):V→Option Rs
 | .loc b i off=>match hp b with
  | some (.var cs)=>match i with
   | 0=>QtC T Tx cs off none
   | _=>none
  | some (.arr _ rs)=>match h with
   | .row r=>QtC T Tx r off (some (rs[i]? = some r))
   | _=>none
  | _=>none
 | .ro cs=>QtC T Tx cs 0 none
 | _=>none
def QyJ (T:Tab)(Tx:TypeId)(i:Nat):V→Option Rs
 | .loc b k off=>match look T.fo Tx with
  | some l=>match l[i]? with
   | some n=>some ⟨.loc b k (off+n),none,none⟩
   | none=>none
  | none=>none
 | .ro cs=>match look T.fo Tx with
  | some l=>match l[i]? with
   | some n=>some ⟨.ro (cs.drop n),none,none⟩
   | none=>none
  | none=>none
 | _=>none
def QyK (T:Tab)(h:Qj2)(Tx:TypeId)(hp:Nat→Option Ob):V→V→Option Rs
 | .sl z rows,.i _ j=>match look T.es Tx with
  | some p=>match h with
   | .row r=>bif Nat.beq z p.2.1 then some ⟨.ro r,none,some (0≤j∧rows[j.toNat]? = some r)⟩else none
   | _=>none
  | none=>none
 | .own b n,.i _ j=>match look T.es Tx with
  | some p=>match hp b with
   | some (.arr z _)=>bif Nat.beq z p.2.1 then some ⟨.loc b j.toNat 0,none,some (0≤j∧j<(n:Int))⟩else none
   | _=>none
  | none=>none
 | .loc b i m,.i _ j=>match look T.ar Tx with
  | some p=>bif decide (0≤j)&&decide (j<(p.1:Int))then some ⟨.loc b i (m+j.toNat*p.2),none,none⟩else none
  | none=>none
 | .ro cs,.i _ j=>match look T.ar Tx with
  | some p=>bif decide (0≤j)&&decide (j<(p.1:Int))then some ⟨.ro (cs.drop (j.toNat*p.2)),none,none⟩else none
  | none=>none
 | _,_=>none
def QCn (T:Tab)(h:Qj2)(Tx:TypeId):V→Option Rs
 | .sl _ rows=>bif (look T.es Tx).isSome then match h with
  | .ln m=>some ⟨.i .i64 m,none,some (rows.length=m)⟩
  | _=>some ⟨.i .i64 rows.length,none,none⟩
  else none
 | .own _ n=>bif (look T.es Tx).isSome then some ⟨.i .i64 n,none,none⟩else none
 | .lit (.slice none 0 0)=>bif (look T.es Tx).isSome then some ⟨.i .i64 0,none,none⟩else none
 | .s s=>bif Qad T.sb Tx then some ⟨.i .i64 s.size,none,none⟩else none
 | _=>none
def mkV (T:Tab)(h:Qj2)(Tx d:TypeId):V→V→Option Rs
 | .i _ l,.i _ c=>match look T.es Tx with
  | some p=>match look T.zv p.1 with
   | some zs=>match h with
    | .rows rs=>bif Nat.beq zs.length p.2.1&&!(Nat.beq p.2.1 0)&&zs.all V.one&&Nat.ble p.2.2 32768 then
     some ⟨.own d l.toNat,some (.arr p.2.1 rs),some ((decide (0≤l)&&decide (l≤c)&&decide (c≤4294967296))=true∧List.replicate l.toNat zs=rs)⟩else none
    | _=>none
   | none=>none
  | none=>none
 | _,_=>none
def mmV (mx:Bool):V→V→Option Rs
 | .i k m,.i k' n=>bif ikB k k' then bif mx then some ⟨.i k (Vm.max2 m n),none,none⟩else some ⟨.i k (Vm.min2 m n),none,none⟩else none
 | _,_=>none
def Qyr (P:Program)(T:Tab)(h:Qj2)(hp:Nat→Option Ob)(d fn:Nat)(vs:List V):Option Rs:=
 bif Qad T.en fn then match h with
 | .c g ms r=>match Qrn hp g ms vs with
  | some (us,k)=>bif (!g&&r.datA)||r.scaA then some ⟨r,none,some (k (Qc P fn us [] (Gives r [])))⟩else none
  | none=>none
 | .co g ms z rows m=>match Qrn hp g ms vs with
  | some (us,k)=>some ⟨.own d m,some (.arr z rows),some (k (Qc P fn us [] (Gives (.own 600 m) [(600,.arr z rows)])∧rows.length=m∧(g=false∨∀r∈rows,∀v∈r,v.sca=true)))⟩
  | none=>none
 | .cd g ms z rows m=>match Qrn hp g ms vs with
  | some (us,k)=>bif !g then some ⟨.sl z rows,none,some (k (Qc P fn us [] (Gives (.own 600 m) [(600,.arr z rows)])∧rows.length=m))⟩else none
  | none=>none
 | _=>none
 else none
def ev1 (P:Program)(C:Ctx)(T:Tab)(h:Qj2)(o:Oper)(d:Nat)(f:Operand→Option V)(hp:Nat→Option Ob):Option Rs:=
 match h with
 | .any v ob=>some ⟨v,ob,some (∀σ:St,(∀x u,f x=some u→σ.opd x=some u)→(∀b u,hp b=some u→look σ.hp b=some u)→(ob.isSome=true→look σ.hp d=none)→Stp P C o σ (σ.addF ⟨d,v,ob⟩))⟩
 | h=>match o.op with
  | .move x=>match f x with
   | some v=>some ⟨v,none,none⟩
   | none=>none
  | .assign x=>match f x with
   | some v=>some ⟨v,none,none⟩
   | none=>none
  | .pick c a b=>match f c with
   | some (.b true)=>match f a with
    | some v=>some ⟨v,none,none⟩
    | none=>none
   | some (.b false)=>match f b with
    | some v=>some ⟨v,none,none⟩
    | none=>none
   | _=>none
  | .binOp op Tx x y _=>match f x with
   | some v=>match f y with
    | some u=>QCm T op Tx v u
    | none=>none
   | none=>none
  | .unOp op _ x=>match f x with
   | some v=>unV op v
   | none=>none
  | .alloc Tx=>match look T.zv Tx with
   | some zs=>some ⟨.loc d 0 0,some (.var zs),none⟩
   | none=>none
  | .box _ x=>match f x with
   | some (.agg cs)=>some ⟨.loc d 0 0,some (.var cs),none⟩
   | some v=>bif v.one then some ⟨.loc d 0 0,some (.var [v]),none⟩else none
   | none=>none
  | .load Tx x=>match f x with
   | some v=>Qz7 T h Tx hp v
   | none=>none
  | .fieldAddr Tx x i=>match f x with
   | some v=>QyJ T Tx i v
   | none=>none
  | .indexAddr Tx x y=>match f x with
   | some v=>match f y with
    | some u=>QyK T h Tx hp v u
    | none=>none
   | none=>none
  | .build Tx parts=>match evp f parts.toList with
   | some qs=>match look T.zv Tx with
    | some zs=>bif qs.all (fun q=>q.2.isV)then match look T.sp Tx with
      | some pl=>match Qfu (pl[·]?) zs qs with
       | some vs=>some ⟨.agg vs,none,none⟩
       | none=>none
      | none=>match look T.ar Tx with
       | some p=>match Qfu (fun i=>some (i*p.2,p.2)) zs qs with
        | some vs=>some ⟨.agg vs,none,none⟩
        | none=>none
       | none=>none
     else none
    | none=>none
   | none=>none
  | .buildSlice Tx n parts=>match evp f parts.toList with
   | some qs=>match look T.es Tx with
    | some p=>match look T.zv p.1 with
     | some zs=>bif qs.all (fun q=>q.2.isV)&&Nat.beq zs.length p.2.1&&!(Nat.beq p.2.1 0)&&Nat.ble (n*p.2.1) 16777216 then
      match Qfu (fun i=>some (i*p.2.1,p.2.1)) ((List.range (n*p.2.1)).map fun k=>zs.getD (k % p.2.1) .J) qs with
      | some vs=>match h with
       | .bd ms=>bif (QdJ ms vs).all V.one&&(QdJ ms vs).all V.dat then some ⟨.sl p.2.1 (QiO p.2.1 n (QdJ ms vs)),none,none⟩else none
       | _=>bif vs.all V.one&&vs.all V.dat then some ⟨.own d n,some (.arr p.2.1 (QiO p.2.1 n vs)),none⟩else none
      | none=>none
      else none
     | none=>none
    | none=>none
   | none=>none
  | .extract x i=>match f x with
   | some (.tup vs)=>match vs[i]? with
    | some v=>some ⟨v,none,none⟩
    | none=>none
   | _=>none
  | .nilCheck x=>match f x with
   | some (.loc b i k)=>some ⟨.loc b i k,none,none⟩
   | _=>none
  | .makeInterface Tx x=>match f x with
   | some v=>bif Qad T.cc Tx then some ⟨.ifc Tx v,none,none⟩else none
   | none=>none
  | .typeAssert x _ Tx false=>match f x with
   | some (.ifc t v)=>bif Nat.beq t Tx&&Qad T.cc Tx then some ⟨v,none,none⟩else none
   | _=>none
  | .makeFunc fn first caps=>match evs f first.toList with
   | some vs=>match evs f caps.toList with
    | some us=>some ⟨.clo fn vs us,none,none⟩
    | none=>none
   | none=>none
  | .index Tx x y=>match f x with
   | some (.s s)=>match f y with
    | some (.i _ j)=>match h with
     | .num r=>bif Qad T.sb Tx then some ⟨.i .u8 r,none,some (sidx s j=some r)⟩else none
     | _=>none
    | _=>none
   | _=>none
  | .makeSlice Tx x y=>match f x with
   | some v=>match f y with
    | some u=>mkV T h Tx d v u
    | none=>none
   | none=>none
  | .makeMap _ none=>some ⟨.map d,some (.map []),none⟩
  | .call c=>match c.callee with
   | .builtin .max=>match c.args.toList with
    | [x,y]=>match f x with
     | some v=>match f y with
      | some u=>mmV true v u
      | none=>none
     | none=>none
    | _=>none
   | .builtin .min=>match c.args.toList with
    | [x,y]=>match f x with
     | some v=>match f y with
      | some u=>mmV false v u
      | none=>none
     | none=>none
    | _=>none
   | .builtin .len=>match c.args.toList with
    | [x]=>match c.argTypes.toList with
     | [Tx]=>match f x with
      | some v=>QCn T h Tx v
      | none=>none
     | _=>none
    | _=>none
   | .value x=>match f x with
    | some (.clo (.func fn) fs cs)=>match evs f c.args.toList with
     | some vs=>Qyr P T h hp d fn (fs++(vs++cs))
     | none=>none
    | _=>none
   | _=>none
  | _=>none
section
variable {P:Program}{C:Ctx}{T:Tab}{o:Oper}{d:Nat}{f:Operand→Option V}{hp:Nat→Option Ob}{σ:St}
theorem QfY (h1:∀x u,f x=some u→σ.opd x=some u):∀{l:List Operand} {vs:List V},evs f l=some vs→σ.opsV l=some vs:=by
 intro l
 induction l with
 | nil=>intro vs h;exact h
 | cons x l ih=>
  intro vs h
  rw [evs]at h
  split at h
  ·rename_i v hv
   split at h
   ·rename_i us hus
    cases h
    simp only [St.opsV,h1 _ _ hv,ih hus]
   cases h
  cases h
theorem QfZ (h1:∀x u,f x=some u→σ.opd x=some u):∀{l:List (Nat×Operand)} {vs:List (Nat×V)},evp f l=some vs→σ.opds l=some vs:=by
 intro l
 induction l with
 | nil=>intro vs h;exact h
 | cons x l ih=>
  intro vs h
  obtain⟨i,x⟩:=x
  rw [evp]at h
  split at h
  ·rename_i v hv
   split at h
   ·rename_i us hus
    cases h
    simp only [St.opds,h1 _ _ hv,ih hus]
   cases h
  cases h
theorem Qam {α:Type _}{c:Bool}{x:Option α}{r:α}(h:(bif c then x else none)=some r):c=true∧x=some r:=by
 cases c with
 | true=>exact⟨rfl,h⟩
 | false=>cases h
theorem Qvl (h2:∀b u,hp b=some u→look σ.hp b=some u){g:Bool}{m:Mode}{v u:V}{φ:Option Prop}(h:Qz6 hp g m v=some (u,φ))(hφ:(match φ with | none=>True | some p=>p)):Qpc σ.hp g v u:=by
 unfold Qz6 at h
 cases m with
 | d=>obtain⟨hd,h⟩:=Qam h;cases h;exact .dat _ hd
 | n z=>
  dsimp only at h
  split at h
  ·cases h;exact .nil _
  cases h
 | o us=>
  dsimp only at h
  split at h
  ·dsimp only at h
   split at h
   ·rename_i z rs hb
    obtain⟨hg,h⟩:=Qam h;subst hg;cases h;exact .own _ _ _ _ _ rfl (h2 _ _ hb) hφ.1 hφ.2
   cases h
  cases h
theorem Qpd (h2:∀b u,hp b=some u→look σ.hp b=some u){g:Bool}:∀{ms:List Mode} {vs us:List V} {k:Prop→Prop},Qrn hp g ms vs=some (us,k)→∀{p:Prop},k p→QoN σ.hp g vs us∧p:=by
 intro ms
 induction ms with
 | nil=>
  intro vs us k h p hk
  cases vs with
  | nil=>cases h;exact⟨.nil,hk⟩
  | cons=>cases h
 | cons m ms ih=>
  intro vs us k h p hk
  cases vs with
  | nil=>cases h
  | cons v vs=>
   rw [Qrn]at h
   split at h
   ·rename_i u φ hu
    split at h
    ·rename_i us' k' hus
     cases h
     cases φ with
     | none=>obtain⟨a,b⟩:=ih hus hk;exact⟨.cons (Qvl h2 hu trivial) a,b⟩
     | some q=>obtain⟨a,b⟩:=ih hus hk.2;exact⟨.cons (Qvl h2 hu hk.1) a,b⟩
    cases h
   cases h
theorem Qsl {Tx:TypeId}{cs:List V}{off:Nat}{φ:Option Prop}{r:Rs}(ok:Qdw P T)(h:QtC T Tx cs off φ=some r):
  r.ob=none∧r.φ=φ∧((Qg0 P Tx=some true∧∃n,QgJ P Tx=some n∧Nat.ble (off+n) cs.length=true∧r.v=.agg ((cs.drop off).take n))∨(Qg0 P Tx=some false∧cs[off]? = some r.v)):=by
 unfold QtC at h
 split at h
 ·rename_i hg
  split at h
  ·rename_i n hn
   obtain⟨h1,h⟩:=Qam h
   cases h
   exact⟨rfl,rfl,.inl ⟨ok.ag hg,n,ok.sz hn,h1,rfl⟩⟩
  cases h
 ·rename_i hg
  split at h
  ·rename_i v hv
   cases h
   exact⟨rfl,rfl,.inr ⟨ok.ag hg,hv⟩⟩
  cases h
 cases h
def QaG (P:Program)(C:Ctx)(o:Oper)(d:Nat)(r:Rs)(σ:St):Prop:=Stp P C o σ (σ.addF ⟨d,r.v,r.ob⟩)
theorem QaG.put {r:Rs}(ho:r.ob=none)(h:Stp P C o σ (σ.put d r.v)):QaG P C o d r σ:=by
 obtain⟨v,ob,φ⟩:=r
 cases ho
 exact h
theorem Qzu {h:Qj2}{Tx:TypeId}{x:Operand}{v:V}{r:Rs}(ok:Qdw P T)(ho:o.op=.load Tx x)(hd:o.dst=some d)(hn:Nat.ble (d+1) C.n=true)(hx:σ.opd x=some v)
  (h2:∀b u,hp b=some u→look σ.hp b=some u) (e:Qz7 T h Tx hp v=some r) (hφ:r.holds):QaG P C o d r σ:=by
 unfold Qz7 at e
 split at e
 ·rename_i b i off
  split at e
  ·rename_i cs hb
   split at e
   ·obtain⟨e1,e2,⟨e3,n,e4,e5,e6⟩|⟨e3,e4⟩⟩:=Qsl ok e
    ·refine QaG.put e1 ?_;rw [e6];exact Stp.loadAL ho hd hn hx (h2 _ _ hb) e3 e4 e5 rfl
    exact QaG.put e1 (Stp.load1L ho hd hn hx (h2 _ _ hb) e3 e4)
   cases e
  ·rename_i z rs hb
   split at e
   ·rename_i r'
    obtain⟨e1,e2,⟨e3,n,e4,e5,e6⟩|⟨e3,e4⟩⟩:=Qsl ok e
    ·rw [Rs.holds,e2]at hφ;refine QaG.put e1 ?_;rw [e6];exact Stp.loadAA ho hd hn hx (h2 _ _ hb) e3 e4 hφ e5 rfl
    rw [Rs.holds,e2]at hφ;exact QaG.put e1 (Stp.load1A ho hd hn hx (h2 _ _ hb) e3 hφ e4)
   cases e
  cases e
 ·rename_i cs
  obtain⟨e1,e2,⟨e3,n,e4,e5,e6⟩|⟨e3,e4⟩⟩:=Qsl ok e
  ·refine QaG.put e1 ?_;rw [e6];rw [QoL]at e5;exact Stp.loadAR ho hd hn hx e3 e4 e5 rfl
  exact QaG.put e1 (Stp.load1R ho hd hn hx e3 e4)
 cases e
theorem Qz8 {op:BinOp}{Tx Ty:TypeId}{x y:Operand}{v u:V}{r:Rs}(ok:Qdw P T)(ho:o.op=.binOp op Tx x y Ty)(hd:o.dst=some d)(hn:Nat.ble (d+1) C.n=true)(hx:σ.opd x=some v)(hy:σ.opd y=some u)
  (e:QCm T op Tx v u=some r) (hφ:r.holds):QaG P C o d r σ:=by
 unfold QCm at e
 split at e
 ·rename_i k m k' n
  replace e:=Qam e;obtain⟨e1,e⟩:=e
  have:=QyI e1;subst this
  split at e
  ·cases e;exact QaG.put rfl (Stp.divi ho hd hn hx hy hφ (.inl ⟨rfl,rfl⟩))
  ·cases e;exact QaG.put rfl (Stp.divi ho hd hn hx hy hφ (.inr ⟨rfl,rfl⟩))
  split at e
  ·rename_i w hw;cases e;exact QaG.put rfl (Stp.bin ho hd hn hx hy hw)
  cases e
 ·replace e:=Qam e;obtain⟨e1,e⟩:=e
  split at e
  ·cases e;exact QaG.put rfl (Stp.eqB ho hd hn hx hy (ok.bo e1) (.inl ⟨rfl,rfl⟩))
  ·cases e;exact QaG.put rfl (Stp.eqB ho hd hn hx hy (ok.bo e1) (.inr ⟨rfl,rfl⟩))
  cases e
 ·split at e
  ·cases e;exact QaG.put rfl (Stp.eqS ho hd hn hx hy (.inl ⟨rfl,rfl⟩))
  ·cases e;exact QaG.put rfl (Stp.eqS ho hd hn hx hy (.inr ⟨rfl,rfl⟩))
  cases e
 cases e
theorem QyL {Tx:TypeId}{i:Nat}{x:Operand}{v:V}{r:Rs}(ok:Qdw P T)(ho:o.op=.fieldAddr Tx x i)(hd:o.dst=some d)(hn:Nat.ble (d+1) C.n=true)(hx:σ.opd x=some v)
  (e:QyJ T Tx i v=some r):QaG P C o d r σ:=by
 unfold QyJ at e
 split at e
 ·split at e
  ·rename_i l hl
   split at e
   ·rename_i n hn';cases e;exact QaG.put rfl (Stp.fieldL ho hd hn hx (ok.fo hl hn'))
   cases e
  cases e
 ·split at e
  ·rename_i l hl
   split at e
   ·rename_i n hn';cases e;exact QaG.put rfl (Stp.fieldR ho hd hn hx (ok.fo hl hn') rfl)
   cases e
  cases e
 cases e
theorem QyM {h:Qj2}{Tx:TypeId}{x y:Operand}{v u:V}{r:Rs}(ok:Qdw P T)(ho:o.op=.indexAddr Tx x y)(hd:o.dst=some d)(hn:Nat.ble (d+1) C.n=true)(hx:σ.opd x=some v)(hy:σ.opd y=some u)
  (h2:∀b u,hp b=some u→look σ.hp b=some u) (e:QyK T h Tx hp v u=some r) (hφ:r.holds):QaG P C o d r σ:=by
 unfold QyK at e
 split at e
 ·split at e
  ·rename_i p hp'
   split at e
   ·replace e:=Qam e;obtain⟨e1,e⟩:=e
    obtain⟨pe,pz,pb⟩:=p
    have:=QaF e1;dsimp only at this;subst this
    cases e;exact QaG.put rfl (Stp.idxS ho hd hn hx hy (ok.es hp') hφ.1 hφ.2)
   cases e
  cases e
 ·split at e
  ·rename_i p hp'
   split at e
   ·rename_i z rs hb
    replace e:=Qam e;obtain⟨e1,e⟩:=e
    obtain⟨pe,pz,pb⟩:=p
    have:=QaF e1;dsimp only at this;subst this
    cases e;exact QaG.put rfl (Stp.idxO ho hd hn hx hy (ok.es hp') (h2 _ _ hb) hφ.1 hφ.2)
   cases e
  cases e
 ·split at e
  ·rename_i p hp'
   replace e:=Qam e;obtain⟨e1,e⟩:=e
   rw [QE,QD,QD]at e1
   cases e;exact QaG.put rfl (Stp.idxAL ho hd hn hx hy (ok.ar hp') e1.1 e1.2 rfl)
  cases e
 ·split at e
  ·rename_i p hp'
   replace e:=Qam e;obtain⟨e1,e⟩:=e
   rw [QE,QD,QD]at e1
   cases e;exact QaG.put rfl (Stp.idxAR ho hd hn hx hy (ok.ar hp') e1.1 e1.2 rfl)
  cases e
 cases e
theorem Qz9 {h:Qj2}{Tx:TypeId}{x:Operand}{v:V}{r:Rs}(ok:Qdw P T)(ho:o.op=.call { callee:=.builtin .len,args:=#[x],argTypes:=#[Tx] })(hd:o.dst=some d)(hn:Nat.ble (d+1) C.n=true)(hx:σ.opd x=some v)
  (e:QCn T h Tx v=some r) (hφ:r.holds):QaG P C o d r σ:=by
 have es:∀{t:Nat},(look T.es t).isSome=true→∃p,QaL P t=some p:=fun {t} h=>by
  cases hl:look T.es t with
  | none=>rw [hl]at h;cases h
  | some p=>exact⟨p,ok.es hl⟩
 unfold QCn at e
 split at e
 ·replace e:=Qam e;obtain⟨e1,e⟩:=e;obtain⟨p,hp'⟩:=es e1
  split at e
  ·cases e;exact QaG.put rfl (Stp.lenS' ho hd hn hx hp' hφ)
  cases e;exact QaG.put rfl (Stp.lenS ho hd hn hx hp')
 ·replace e:=Qam e;obtain⟨e1,e⟩:=e;obtain⟨p,hp'⟩:=es e1;cases e;exact QaG.put rfl (Stp.lenO ho hd hn hx hp')
 ·replace e:=Qam e;obtain⟨e1,e⟩:=e;obtain⟨p,hp'⟩:=es e1;cases e;exact QaG.put rfl (Stp.lenN ho hd hn hx hp')
 ·replace e:=Qam e;obtain⟨e1,e⟩:=e;cases e;exact QaG.put rfl (Stp.lenStr ho hd hn hx (ok.sb e1))
 cases e
theorem QxR {mx:Bool}{x y:Operand}{v u:V}{ts:Array TypeId}{r:Rs}(ho:o.op=.call { callee:=.builtin (if mx then .max else .min),args:=#[x,y],argTypes:=ts })(hd:o.dst=some d)(hn:Nat.ble (d+1) C.n=true)(hx:σ.opd x=some v)(hy:σ.opd y=some u)
  (e:mmV mx v u=some r):QaG P C o d r σ:=by
 unfold mmV at e
 split at e
 ·replace e:=Qam e;obtain⟨e1,e⟩:=e
  have:=QyI e1;subst this
  cases mx with
  | true=>cases e;exact QaG.put rfl (Stp.max2 ho hd hn hx hy)
  | false=>cases e;exact QaG.put rfl (Stp.min2 ho hd hn hx hy)
 cases e
theorem QBd {h:Qj2}{Tx:TypeId}{x y:Operand}{v u:V}{r:Rs}(ok:Qdw P T)(ho:o.op=.makeSlice Tx x y)(hd:o.dst=some d)(hn:Nat.ble (d+1) C.n=true)(hx:σ.opd x=some v)(hy:σ.opd y=some u)
  (e:mkV T h Tx d v u=some r) (hφ:r.holds) (hf:r.ob.isSome=true→look σ.hp d=none):QaG P C o d r σ:=by
 unfold mkV at e
 split at e
 ·split at e
  ·rename_i p hp'
   split at e
   ·rename_i zs hz
    split at e
    ·replace e:=Qam e;obtain⟨e1,e⟩:=e
     simp only [QE,Qfr]at e1
     obtain⟨⟨⟨a1,a2⟩,a3⟩,a4⟩:=e1
     cases e
     exact Stp.make' ho hd hn hx hy (ok.es hp') (ok.zv hz) (QaF a1) (fun h0=>by rw [h0]at a2;cases a2) a3 hφ.1 a4 (hf rfl) hφ.2
    cases e
   cases e
  cases e
 cases e
theorem Gives.own {fn:Nat}{us:List V}{z m:Nat}{rows:List (List V)}(h:Qc P fn us [] (Gives (.own 600 m) [(600,.arr z rows)]))(hm:rows.length=m):Qc P fn us [] (QyB z rows):=
 h.mono fun v hs ⟨a,b⟩=>⟨600,by rw [a,hm],b _ _ rfl⟩
theorem Qzv {h:Qj2}{fn:Nat}{vs:List V}{r:Rs}(ok:Qdw P T)(hE:QbN P C o σ fn vs)(hd:o.dst=some d)(hn:Nat.ble (d+1) C.n=true)(hpg:C.pg P)
  (h2:∀b u,hp b=some u→look σ.hp b=some u) (e:Qyr P T h hp d fn vs=some r) (hφ:r.holds) (hf:r.ob.isSome=true→look σ.hp d=none):QaG P C o d r σ:=by
 unfold Qyr at e
 replace e:=Qam e;obtain⟨e1,e⟩:=e
 split at e
 ·split at e
  ·rename_i us k hv
   replace e:=Qam e;obtain⟨e2,e⟩:=e
   cases e
   obtain⟨a1,a2⟩:=Qpd h2 hv hφ
   refine QaG.put rfl (Stp.callE hE hd hn hpg a1 (a2.mono fun _ _ h=>h.1) ?_)
   rw [Qdt,QE]at e2
   exact e2.imp (fun h=>⟨by simpa using h.1,h.2⟩) id
  cases e
 ·split at e
  ·rename_i us k hv
   cases e
   obtain⟨a1,a2,a3,a4⟩:=Qpd h2 hv hφ
   exact Stp.callOE hE hd hn hpg a1 (Gives.own a2 a3) a4 (hf rfl) a3
  cases e
 ·split at e
  ·rename_i us k hv
   replace e:=Qam e;obtain⟨e2,e⟩:=e
   cases e
   obtain⟨a1,a2,a3⟩:=Qpd h2 hv hφ
   exact QaG.put rfl (Stp.callE hE hd hn hpg a1 (Gives.own a2 a3).toData (.inl ⟨by simpa using e2,rfl⟩))
  cases e
 cases e
theorem QtD {h:Qj2}{r:Rs}(ok:Qdw P T)(hd:o.dst=some d)(hn:Nat.ble (d+1) C.n=true)(hpg:C.pg P)(h1:∀x u,f x=some u→σ.opd x=some u)(h2:∀b u,hp b=some u→look σ.hp b=some u)
  (e:ev1 P C T h o d f hp=some r) (hφ:r.holds) (hf:r.ob.isSome=true→look σ.hp d=none):QaG P C o d r σ:=by
 unfold ev1 at e
 split at e
 ·cases e;exact hφ σ h1 h2 hf
 split at e
 ·rename_i x ho
  split at e
  ·rename_i v hv;cases e;exact QaG.put rfl (Stp.move ho hd hn (h1 _ _ hv))
  cases e
 ·rename_i x ho
  split at e
  ·rename_i v hv;cases e;exact QaG.put rfl (Stp.assign ho hd hn (h1 _ _ hv))
  cases e
 ·rename_i c a b ho
  split at e
  ·rename_i hc
   split at e
   ·rename_i v hv;cases e;exact QaG.put rfl (Stp.pickT ho hd hn (h1 _ _ hc) rfl (h1 _ _ hv))
   cases e
  ·rename_i hc
   split at e
   ·rename_i v hv;cases e;exact QaG.put rfl (Stp.pickF ho hd hn (h1 _ _ hc) rfl (h1 _ _ hv))
   cases e
  cases e
 ·rename_i op Tx x y Ty ho
  split at e
  ·rename_i v hv
   split at e
   ·rename_i u hu;exact Qz8 ok ho hd hn (h1 _ _ hv) (h1 _ _ hu) e hφ
   cases e
  cases e
 ·rename_i op Tx x ho
  split at e
  ·rename_i v hv
   unfold unV at e
   split at e
   ·split at e
    ·cases e;exact QaG.put rfl (Stp.not ho hd hn (h1 _ _ hv))
    cases e
   ·split at e
    ·cases e;exact QaG.put rfl (Stp.neg ho hd hn (h1 _ _ hv))
    cases e
   cases e
  cases e
 ·rename_i Tx ho
  split at e
  ·rename_i zs hz;cases e;exact Stp.alloc ho hd hn (ok.zv hz) (hf rfl)
  cases e
 ·rename_i Tx x ho
  split at e
  ·rename_i cs hv;cases e;exact Stp.box ho hd hn (h1 _ _ hv) (.inr ⟨_,rfl⟩) (hf rfl)
  ·rename_i v hne hv
   replace e:=Qam e;obtain⟨e1,e⟩:=e
   cases e
   have hc:v.cells=[v]:=by cases v<;>first | rfl | exact absurd rfl (hne _)
   have:=Stp.box (P:=P) ho hd hn (h1 _ _ hv) (.inl e1) (hf rfl)
   rw [hc]at this;exact this
  cases e
 ·rename_i Tx x ho
  split at e
  ·rename_i v hv;exact Qzu ok ho hd hn (h1 _ _ hv) h2 e hφ
  cases e
 ·rename_i Tx x i ho
  split at e
  ·rename_i v hv;exact QyL ok ho hd hn (h1 _ _ hv) e
  cases e
 ·rename_i Tx x y ho
  split at e
  ·rename_i v hv
   split at e
   ·rename_i u hu;exact QyM ok ho hd hn (h1 _ _ hv) (h1 _ _ hu) h2 e hφ
   cases e
  cases e
 ·rename_i Tx parts ho
  split at e
  ·rename_i qs hq
   split at e
   ·rename_i zs hz
    replace e:=Qam e;obtain⟨e1,e⟩:=e
    split at e
    ·rename_i pl hpl
     split at e
     ·rename_i vs hvs;cases e;exact QaG.put rfl (Stp.build ho hd hn (ok.zv hz) (ok.sp hpl) (QfZ h1 hq) e1 hvs)
     cases e
    split at e
    ·rename_i p hp'
     split at e
     ·rename_i vs hvs;cases e;exact QaG.put rfl (Stp.buildA ho hd hn (ok.zv hz) (ok.ar hp') (QfZ h1 hq) e1 hvs)
     cases e
    cases e
   cases e
  cases e
 ·rename_i Tx n parts ho
  split at e
  ·rename_i qs hq
   split at e
   ·rename_i p hp'
    split at e
    ·rename_i zs hz
     replace e:=Qam e;obtain⟨e1,e⟩:=e
     split at e
     ·rename_i vs hvs
      simp only [QE,Qfr]at e1
      obtain⟨⟨⟨e3,e4⟩,e5⟩,e6⟩:=e1
      have e4:=QaF e4
      split at e
      ·replace e:=Qam e;obtain⟨e2,e⟩:=e
       cases e
       rw [QE]at e2
       exact QaG.put rfl (Stp.buildSliceD _ ho hd hn (ok.es hp') (ok.zv hz) e4 (fun h0=>by rw [h0]at e5;cases e5) (QbZ e6) (QfZ h1 hq) e3 hvs e2.1 e2.2 rfl)
      replace e:=Qam e;obtain⟨e2,e⟩:=e
      cases e
      rw [QE]at e2
      exact Stp.buildSlice ho hd hn (ok.es hp') (ok.zv hz) e4 (fun h0=>by rw [h0]at e5;cases e5) (QbZ e6) (QfZ h1 hq) e3 hvs e2.1 e2.2 rfl (hf rfl)
     cases e
    cases e
   cases e
  cases e
 ·rename_i x i ho
  split at e
  ·rename_i vs hv
   split at e
   ·rename_i v hv';cases e;exact QaG.put rfl (Stp.extract ho hd hn (h1 _ _ hv) hv')
   cases e
  cases e
 ·rename_i x ho
  split at e
  ·rename_i hv;cases e;exact QaG.put rfl (Stp.nilCheckL ho hd hn (h1 _ _ hv))
  cases e
 ·rename_i Tx x ho
  split at e
  ·rename_i v hv
   replace e:=Qam e;obtain⟨e1,e⟩:=e
   cases e;exact QaG.put rfl (Stp.makeInterface ho hd hn (h1 _ _ hv) (ok.cc e1))
  cases e
 ·rename_i x S Tx ho
  split at e
  ·rename_i t v hv
   replace e:=Qam e;obtain⟨e1,e⟩:=e
   rw [QE]at e1
   have:=QaF e1.1;subst this
   cases e;exact QaG.put rfl (Stp.typeAssert ho hd hn (h1 _ _ hv) (ok.cc e1.2))
  cases e
 ·rename_i fn first caps ho
  split at e
  ·rename_i vs hv
   split at e
   ·rename_i us hu;cases e;exact QaG.put rfl (Stp.makeFunc ho hd hn (QfY h1 hv) (QfY h1 hu))
   cases e
  cases e
 ·rename_i Tx x y ho
  split at e
  ·rename_i s hs
   split at e
   ·rename_i k j hj
    split at e
    ·replace e:=Qam e;obtain⟨e1,e⟩:=e
     cases e;exact QaG.put rfl (Stp.idxStr' ho hd hn (h1 _ _ hs) (h1 _ _ hj) (ok.sb e1) hφ)
    cases e
   cases e
  cases e
 ·rename_i Tx x y ho
  split at e
  ·rename_i v hv
   split at e
   ·rename_i u hu;exact QBd ok ho hd hn (h1 _ _ hv) (h1 _ _ hu) e hφ hf
   cases e
  cases e
 ·rename_i ho;cases e;exact Stp.makeMap ho hd hn (hf rfl)
 ·rename_i c ho
  obtain⟨cl,ags,ts⟩:=c
  split at e
  ·rename_i hc
   dsimp only at hc e;subst hc
   split at e
   ·rename_i x y hxy
    split at e
    ·rename_i v hv
     split at e
     ·rename_i u hu
      have ea:ags=#[x,y]:=by rw [←Qtw (xs:=ags),hxy]
      subst ea
      exact QxR (mx:=true) ho hd hn (h1 _ _ hv) (h1 _ _ hu) e
     cases e
    cases e
   cases e
  ·rename_i hc
   dsimp only at hc e;subst hc
   split at e
   ·rename_i x y hxy
    split at e
    ·rename_i v hv
     split at e
     ·rename_i u hu
      have ea:ags=#[x,y]:=by rw [←Qtw (xs:=ags),hxy]
      subst ea
      exact QxR (mx:=false) ho hd hn (h1 _ _ hv) (h1 _ _ hu) e
     cases e
    cases e
   cases e
  ·rename_i hc
   dsimp only at hc e;subst hc
   split at e
   ·rename_i x hx
    split at e
    ·rename_i Tx hT
     split at e
     ·rename_i v hv
      have ea:ags=#[x]:=by rw [←Qtw (xs:=ags),hx]
      have et:ts=#[Tx]:=by rw [←Qtw (xs:=ts),hT]
      subst ea;subst et
      exact Qz9 ok ho hd hn (h1 _ _ hv) e hφ
     cases e
    cases e
   cases e
  ·rename_i x hc
   dsimp only at hc e;subst hc
   split at e
   ·rename_i fn fs cs hx
    split at e
    ·rename_i vs hv
     have e1:Qad T.en fn=true:=by unfold Qyr at e;exact(Qam e).1
     exact Qzv ok (QbN.clo ho (h1 _ _ hx) (ok.en e1) (QfY h1 hv)) hd hn hpg h2 e hφ hf
    cases e
   cases e
  cases e
 cases e
end
end Go.Vm
namespace Go.Vm
open Go Go.RowKit
inductive Fr where
 | seq (y:Code)
 | blk (id:Nat)
 | cut (K:St→Prop)
inductive Pt where
 | c (c:Code)
 | o (ops:Array Oper) (l:List Oper)
 | x (e:Exit)
section
variable (P:Program)(C:Ctx)(Q:Exit→St→Prop)
def unw : List Fr→Exit→St→Prop
 | []=>Q
 | .seq y::k=>Qr7 (fun σ=>AWp P C y σ (unw k)) (unw k)
 | .blk id::k=>Qo6 id (unw k)
 | .cut K::k=>Qr7 K (unw k)
def AK (pt:Pt)(ks:List Fr)(σ:St):Prop:=match pt with
 | .c c=>AWp P C c σ (unw P C Q ks)
 | .o ops l=>AL P C ops l σ (unw P C Q ks)
 | .x e=>∀a w,R C σ a w→up C (unw P C Q ks) e a w
end
section
variable {P:Program}{C:Ctx}{Q:Exit→St→Prop}{σ σ':St}{ks:List Fr}
theorem AK.weaken {pt:Pt}(h:∀a w,R C σ a w→R C σ' a w)(k:AK P C Q pt ks σ'):AK P C Q pt ks σ:=by
 cases pt with
 | c c=>exact fun a w hR=>k a w (h a w hR)
 | o ops l=>exact fun a w hR=>k a w (h a w hR)
 | x e=>exact fun a w hR=>k a w (h a w hR)
theorem AK.done {e:Exit}(h:Q e σ):AK P C Q (.x e) [] σ:=fun a w hR=>⟨σ,h,hR⟩
theorem AK.met {K:St→Prop}(h:K σ):AK P C Q (.x .normal) (.cut K::ks) σ:=fun a w hR=>⟨σ,h,hR⟩
theorem AK.seq {x y:Code}(h:AK P C Q (.c x) (.seq y::ks) σ):AK P C Q (.c (.seq x y)) ks σ:=AWp.seq h
theorem AK.block {id:Nat}{x:Code}(h:AK P C Q (.c x) (.blk id::ks) σ):AK P C Q (.c (.block id x)) ks σ:=AWp.block h
theorem AK.region {id:Nat}{ops:Array Oper}(h:AK P C Q (.o ops ops.toList) ks σ):AK P C Q (.c (.region id ops false)) ks σ:=AWp.region h
theorem AK.skip (h:AK P C Q (.x .normal) ks σ):AK P C Q (.c .skip) ks σ:=fun a w hR=>wpIn_skip (h a w hR)
theorem AK.label {l:Nat}(h:AK P C Q (.x .normal) ks σ):AK P C Q (.c (.label l)) ks σ:=fun a w hR=>wpIn_label (h a w hR)
theorem AK.exit {id:Nat}(h:AK P C Q (.x (.exit id)) ks σ):AK P C Q (.c (.exit id)) ks σ:=fun a w hR=>wpIn_exit (h a w hR)
theorem AK.ret (h:AK P C Q (.x .ret) ks σ):AK P C Q (.c .ret) ks σ:=fun a w hR=>wpIn_ret (h a w hR)
theorem AK.nil {ops:Array Oper}(h:AK P C Q (.x .normal) ks σ):AK P C Q (.o ops []) ks σ:=h
theorem AK.popSeq {y:Code}(h:AK P C Q (.c y) ks σ):AK P C Q (.x .normal) (.seq y::ks) σ:=fun a w hR=>⟨σ,h,hR⟩
theorem AK.popBlk {id:Nat}(h:AK P C Q (.x .normal) ks σ):AK P C Q (.x .normal) (.blk id::ks) σ:=h
theorem AK.exSeq {y:Code}{i:Nat}(h:AK P C Q (.x (.exit i)) ks σ):AK P C Q (.x (.exit i)) (.seq y::ks) σ:=h
theorem AK.exCut {K:St→Prop}{i:Nat}(h:AK P C Q (.x (.exit i)) ks σ):AK P C Q (.x (.exit i)) (.cut K::ks) σ:=h
theorem AK.exBlk {i j:Nat}(e:Nat.beq i j=true)(h:AK P C Q (.x .normal) ks σ):AK P C Q (.x (.exit i)) (.blk j::ks) σ:=fun a w hR=>
 let ⟨σ',h1,h2⟩:=h a w hR;⟨σ',QFq e h1,h2⟩
theorem AK.exBlk' {i j:Nat}(e:Nat.beq i j=false)(h:AK P C Q (.x (.exit i)) ks σ):AK P C Q (.x (.exit i)) (.blk j::ks) σ:=fun a w hR=>
 let ⟨σ',h1,h2⟩:=h a w hR;⟨σ',QFr e h1,h2⟩
theorem AK.retPop {f:Fr}(h:AK P C Q (.x .ret) ks σ):AK P C Q (.x .ret) (f::ks) σ:=by
 cases f<;>exact h
theorem AK.meet {x y:Code}(K:St→Prop)(hx:AK P C Q (.c x) (.cut K::ks) σ)(hy:∀σ',K σ'→AK P C Q (.c y) ks σ'):AK P C Q (.c (.seq x y)) ks σ:=AWp.seqK K hx hy
theorem AK.meetX {c:Code}(K:St→Prop)(hx:AK P C Q (.c c) (.cut K::ks) σ)(hy:∀σ',K σ'→AK P C Q (.x .normal) ks σ'):AK P C Q (.c c) ks σ:=by
 intro a w hR
 refine wpIn_mono (hx a w hR) ?_
 rintro e a w ⟨σ',h1,h2⟩
 cases e<;>first | exact hy σ' h1 a w h2 | exact⟨σ',h1,h2⟩
def QAa {τ ρ:Type}(E:τ→St→Prop)(Post:ρ→Exit→St→Prop)(o:τ⊕ρ):Exit→St→Prop:=
 Qr7 (fun σ'=>∃s',o=.inl s'∧E s' σ') (fun e σ'=>∃r,o=.inr r∧Post r e σ')
theorem Q6 {τ ρ:Type}{E:τ→St→Prop}{Post:ρ→Exit→St→Prop}{o:τ⊕ρ}{s':τ}(h:o=.inl s')(he:E s' σ):AK P C (QAa E Post o) (.x .normal) [] σ:=AK.done ⟨s',h,he⟩
theorem Q8 {τ ρ:Type}{E:τ→St→Prop}{Post:ρ→Exit→St→Prop}{o:τ⊕ρ}{r:ρ}{i:Nat}(h:o=.inr r)(he:Post r (.exit i) σ):AK P C (QAa E Post o) (.x (.exit i)) [] σ:=AK.done ⟨r,h,he⟩
theorem Qav {τ ρ:Type}{E:τ→St→Prop}{Post:ρ→Exit→St→Prop}{o:τ⊕ρ}{r:ρ}(h:o=.inr r)(he:Post r .ret σ):AK P C (QAa E Post o) (.x .ret) [] σ:=AK.done ⟨r,h,he⟩
theorem AK.loop {τ ρ:Type}{body:τ→Option (τ⊕ρ)}{c:Code}(E:τ→St→Prop)(Post:ρ→Exit→St→Prop){s0:τ}{r:ρ}(hr:QJ body s0=some r)(h0:E s0 σ)
  (round:∀s o σ,E s σ→body s=some o→AK P C (QAa E Post o) (.c c) [] σ) (hQ:∀e σ',Post r e σ'→AK P C Q (.x e) ks σ'):AK P C Q (.c (.loop c)) ks σ:=by
 intro a w hR
 refine wpIn_mono (AWp.loop (Q:=fun e σ'=>Post r e σ') E Post round (Qqn.1 hr) h0 (fun e σ' h=>h) a w hR) ?_
 rintro e a' w' ⟨σ',hp,hR'⟩
 exact hQ e σ' hp a' w' hR'
end
def V.isUnd : V→Bool
 | .lit (.tuple a)=>a.isEmpty
 | _=>false
theorem V.isUnd_eq {v:V}(h:v.isUnd=true):v=.lit undef:=by
 unfold V.isUnd at h
 split at h
 ·rename_i a;rw [Array.isEmpty_iff]at h;subst h;rfl
 cases h
inductive Ent where
 | fn
 | clo
 | me (f:Nat)
 | mv (f e:Nat)
def bkM : List (Nat×Nat)→Nat→Option Nat
 | [],_=>none
 | (b,a')::r,a=>bif Nat.beq a' a then some b else bkM r a
def trC (bk:Nat→Option Nat):V→Option V
 | .own a n=>match bk a with
  | some b=>some (.own b n)
  | none=>none
 | .loc a i d=>match bk a with
  | some b=>some (.loc b i d)
  | none=>none
 | .map a=>match bk a with
  | some b=>some (.map b)
  | none=>none
 | .ifc t x=>match trC bk x with
  | some y=>some (.ifc t y)
  | none=>none
 | v=>bif v.datA then some v else none
def trL (bk:Nat→Option Nat):List V→Option (List V)
 | []=>some []
 | v::vs=>match trC bk v with
  | some u=>match trL bk vs with
   | some us=>some (u::us)
   | none=>none
  | none=>none
def trV (bk:Nat→Option Nat):V→Option V
 | .agg cs=>bif (V.agg cs).datA then some (.agg cs)else match trL bk cs with
  | some us=>some (.agg us)
  | none=>none
 | .tup cs=>bif (V.tup cs).datA then some (.tup cs)else match trL bk cs with
  | some us=>some (.tup us)
  | none=>none
 | .clo fn fs cs=>match trL bk fs with
  | some us=>match trL bk cs with
   | some ds=>some (.clo fn us ds)
   | none=>none
  | none=>none
 | v=>trC bk v
def QyN (bk:Nat→Option Nat):List V→Option (List V)
 | []=>some []
 | v::vs=>match trV bk v with
  | some u=>match QyN bk vs with
   | some us=>some (u::us)
   | none=>none
  | none=>none
def trO (bk:Nat→Option Nat):Ob→Option Ob
 | .var cs=>match QyN bk cs with
  | some us=>some (.var us)
  | none=>none
 | .lp l K cs q=>match QyN bk cs with
  | some us=>some (.lp l K us q)
  | none=>none
 | .arr z rs=>some (.arr z rs)
 | .map l=>some (.map l)
 | .grp z l lk=>some (.grp z l lk)
 | _=>none
def QD2 (bk:Nat→Option Nat):Mode→V→Option V
 | .n z,.lit (.slice none 0 0)=>some (.sl z [])
 | .d,v=>trV bk v
 | _,_=>none
def Qms (bk:Nat→Option Nat):List Mode→List V→Option (List V)
 | [],[]=>some []
 | m::ms,v::vs=>match QD2 bk m v with
  | some u=>match Qms bk ms vs with
   | some us=>some (u::us)
   | none=>none
  | none=>none
 | _,_=>none
def Qi8 (bk:Nat→Option Nat)(src:Nat→Option Ob):List (Nat×Nat)→Option (List (Nat×Ob))
 | []=>some []
 | (d,s)::r=>match src s with
  | some ob=>match trO bk ob with
   | some ob'=>match Qi8 bk src r with
    | some l=>some ((d,ob')::l)
    | none=>none
   | none=>none
  | none=>none
def QCo (P:Program)(T:Tab)(σ:St)(φ:Prop)(c:Call):Ent→Option (Nat×List V×Prop)
 | .fn=>match c.callee with
  | .value (.func f)=>bif Qad T.en f then match evs σ.opd c.args.toList with
   | some vs=>some (f,vs,φ)
   | none=>none
   else none
  | _=>none
 | .clo=>match c.callee with
  | .value x=>match σ.opd x with
   | some (.clo (.func f) fs cs)=>bif Qad T.en f then match evs σ.opd c.args.toList with
    | some vs=>some (f,fs++(vs++cs),φ)
    | none=>none
    else none
   | _=>none
  | _=>none
 | .me f=>match c.callee with
  | .invoke x name=>match σ.opd x with
   | some (.ifc t u)=>bif Qad T.en f then match evs σ.opd c.args.toList with
    | some vs=>some (f,u::vs,φ∧((Qmq P t name=some (f,true)∧QyF P t=true)∨(Qmq P t name=some (f,false)∧QtB P t=true)))
    | none=>none
    else none
   | _=>none
  | _=>none
 | .mv f e=>match c.callee with
  | .invoke x name=>match σ.opd x with
   | some (.ifc t (.loc b 0 0))=>match look σ.hp b with
    | some (.var [r])=>bif Qad T.en f then match evs σ.opd c.args.toList with
     | some vs=>some (f,r::vs,φ∧(Qmq P t name=some (f,false)∧Qwj P t e=true∧Qg0 P e=some false))
     | none=>none
     else none
    | _=>none
   | _=>none
  | _=>none
def cmV (P:Program)(σ:St)(φ:Prop)(d f:Nat)(vs:List V)(M N:List (Nat×Nat))(dead:List Nat)(ms:List Mode)(outs:List (Nat×Ob))(r:V):Option (St×Prop):=
 bif QdL σ M N dead outs&&QhE (M.map Prod.fst)&&QhE (N.map Prod.fst)then match Qms (bkM M) ms vs with
  | some us=>match Qi8 (bkM M) (look σ.hp) M with
   | some hsC=>match Qi8 (bkM N) (look outs) N with
    | some hsN=>match trV (bkM N) r with
     | some r'=>some ((σ.after dead hsN).put d r',φ∧Qc P f us hsC (Gives r outs))
     | none=>none
    | none=>none
   | none=>none
  | none=>none
 else none
inductive Dir where
 | n (k:Nat)
 | o (h:Qj2)
 | v (h:Qj2) (ms:List (Option Nat)) (v:V)
 | br (b:Bool)
 | st (r:List V) (rs:List (List V))
 | app (rs:List (List V)) (m:Nat)
 | x (g:St→St)
 | say (t:Nat) (v:V)
 | sayO (b:Nat) (ob:Ob)
 | to (fr:List (Nat×V)) (hp:List (Nat×Ob))
 | freeze (t:Nat) (us:List (List V))
 | adopt (t b z:Nat)
 | denil (t:Nat) (ms:List (Option Nat))
 | denilO (b:Nat) (ms:List (Option Nat))
 | ren (o o':Nat)
 | kill (b:Nat)
 | keep (ts os:List Nat)
 | frz (b:Nat) (us:List (List V)) (ts os:List Nat)
 | adoptO (p i b z:Nat)
 | cm (en:Ent) (M N:List (Nat×Nat)) (dead:List Nat) (ms:List Mode) (outs:List (Nat×Ob)) (r:V)
structure Cfg where
 pt:Pt
 ks:List Fr
 σ:St
 φ:Prop
def Qpe (φ:Prop):Option Prop→Prop
 | none=>φ
 | some p=>φ∧p
def ctl : Pt→List Fr→St→Option (Pt×List Fr)
 | .c (.seq x y),ks,_=>some (.c x,.seq y::ks)
 | .c (.block id x),ks,_=>some (.c x,.blk id::ks)
 | .c (.region _ ops false),ks,_=>some (.o ops ops.toList,ks)
 | .c .skip,ks,_=>some (.x .normal,ks)
 | .c (.label _),ks,_=>some (.x .normal,ks)
 | .c (.exit i),ks,_=>some (.x (.exit i),ks)
 | .c .ret,ks,_=>some (.x .ret,ks)
 | .c (.cond c x y),ks,σ=>match σ.opd c with
  | some (.b true)=>some (.c x,ks)
  | some (.b false)=>some (.c y,ks)
  | _=>none
 | .o _ [],ks,_=>some (.x .normal,ks)
 | .x .normal,.seq y::ks,_=>some (.c y,ks)
 | .x .normal,.blk _::ks,_=>some (.x .normal,ks)
 | .x (.exit i),.seq _::ks,_=>some (.x (.exit i),ks)
 | .x (.exit i),.cut _::ks,_=>some (.x (.exit i),ks)
 | .x (.exit i),.blk j::ks,_=>bif Nat.beq i j then some (.x .normal,ks)else some (.x (.exit i),ks)
 | .x .ret,_::ks,_=>some (.x .ret,ks)
 | _,_,_=>none
def Qfw (ops:Array Oper)(o:Oper)(f:Nat→Option V):Option Bool:=match o.guard with
 | none=>some true
 | some (j,t)=>match ops[j]? with
  | some oj=>match oj.dst with
   | some d=>match f d with
    | some (.b true)=>some t
    | some (.b false)=>some (!t)
    | some v=>bif v.isUnd then some false else none
    | none=>none
   | none=>none
  | none=>none
def QBe (T:Tab)(Tx:TypeId)(σ:St)(φ:Prop):V→V→Option (St×Prop)
 | .loc b i off,v=>match look σ.hp b with
  | some (.var cs)=>match i with
   | 0=>match look T.sz Tx with
    | some n=>bif v.isV&&Nat.beq v.cells.length n&&v.cells.all V.one&&Nat.ble (off+n) cs.length then some (σ.set b (.var (Qcu cs off v.cells)),φ)else none
    | none=>none
   | _=>none
  | _=>none
 | _,_=>none
def storeA (T:Tab)(Tx:TypeId)(σ:St)(φ:Prop)(r:List V)(rs':List (List V)):V→V→Option (St×Prop)
 | .loc b i off,v=>match look σ.hp b with
  | some (.arr z rs)=>match look T.sz Tx with
    | some n=>bif v.isV&&Nat.beq v.cells.length n&&v.cells.all V.one&&v.cells.all V.dat&&Nat.ble (off+n) z then
     some (σ.set b (.arr z rs'),φ∧(rs[i]? = some r∧rs.set i (Qcu r off v.cells)=rs'))else none
    | none=>none
  | _=>none
 | _,_=>none
def op1 (P:Program)(C:Ctx)(T:Tab)(n:Nat)(h:Qj2)(sv:Option (List (Option Nat)×V))(o:Oper)(σ:St)(φ:Prop):Option (St×Prop):=match o.dst with
 | some d=>bif Nat.ble (d+1) n then match ev1 P C T h o d σ.opd (look σ.hp)with
  | some ⟨v,none,q⟩=>match sv with
   | none=>some (σ.put d v,Qpe φ q)
   | some (ms,u)=>some (σ.put d u,Qpe φ q∧v.denil ms=u)
  | some ⟨v,some ob,q⟩=>match look σ.hp d with
   | none=>match sv with
    | none=>some ((σ.set d ob).put d v,Qpe φ q)
    | some (ms,u)=>some ((σ.set d ob).put d u,Qpe φ q∧v.denil ms=u)
   | some _=>none
  | none=>none
  else none
 | none=>match o.op with
  | .store Tx x y=>match σ.opd x with
   | some p=>match σ.opd y with
    | some v=>QBe T Tx σ φ p v
    | none=>none
   | none=>none
  | _=>none
def QCp (T:Tab)(n:Nat)(σ:St)(φ:Prop)(rs':List (List V))(m:Nat)(d Tx Ty:Nat):V→V→Option (St×Prop)
 | .own b k,y=>match look σ.hp b with
  | some (.arr z rs)=>match look T.es Tx with
   | some (e,z',by_)=>match look T.zv e with
    | some zs=>bif (look T.es Ty).isSome&&Nat.ble (d+1) n&&!(Nat.ble 617 b)&&Nat.beq z z'&&Nat.beq zs.length z&&!(Nat.beq z 0)&&Nat.ble by_ 32768 then match y with
     | .sl z'' us=>bif Nat.beq z z'' then some (σ.app b z d m rs',φ∧(rs.length=k∧decide (k+us.length≤4294967296)=true∧rs++us=rs'∧k+us.length=m))else none
     | .own b' k'=>match look σ.hp b' with
      | some (.arr z'' us)=>bif Nat.beq z z'' then some (σ.app b z d m rs',φ∧(rs.length=k∧decide (k+k'≤4294967296)=true∧us.length=k'∧rs++us=rs'∧k+k'=m))else none
      | _=>none
     | .lit (.slice none 0 0)=>some (σ.app b z d k rs,φ∧(rs.length=k∧decide (k≤4294967296)=true))
     | _=>none
     else none
    | none=>none
   | none=>none
  | _=>none
 | _,_=>none
def Qil {α:Type}(l:List (Nat×α)):List Nat→Option (List (Nat×α))
 | []=>some []
 | t::ts=>match look l t with
  | some v=>match Qil l ts with
   | some r=>some ((t,v)::r)
   | none=>none
  | none=>none
def V.frzC (b z:Nat)(us:List (List V)):V→V
 | .own o k=>bif Nat.beq o b then .sl z us else .own o k
 | v=>v
def V.frz (b z:Nat)(us:List (List V)):V→V
 | .agg cs=>.agg (cs.map (V.frzC b z us))
 | v=>v.frzC b z us
def QyO (b:Nat)(rs us:List (List V)):V→Prop
 | .own o k=>bif Nat.beq o b then k≤rs.length∧rs.take k=us else True
 | _=>True
def Qsm (b:Nat)(rs us:List (List V)):List V→Prop
 | []=>True
 | .own o k::r=>QyO b rs us (.own o k)∧Qsm b rs us r
 | _::r=>Qsm b rs us r
def QCq (b:Nat)(rs us:List (List V)):V→Prop
 | .agg cs=>Qsm b rs us cs
 | v=>QyO b rs us v
def V.isOwn (b:Nat):V→Bool
 | .own o _=>Nat.beq o b
 | _=>false
def V.frzB (b:Nat):V→Bool
 | .agg cs=>cs.all fun c=>c.freeC b||c.isOwn b
 | v=>v.freeC b||v.isOwn b
def Qvx (b z:Nat)(rs us:List (List V))(σ0:St):List Nat→St→Prop→Option (St×Prop)
 | [],σ,φ=>some (σ,φ)
 | t::ts,σ,φ=>match look σ0.fr t with
  | some v=>bif v.frzB b then Qvx b z rs us σ0 ts (σ.put t (v.frz b z us)) (φ∧QCq b rs us v)else none
  | none=>none
def QyP (b z:Nat)(rs us:List (List V))(σ0:St):List Nat→St→Prop→Option (St×Prop)
 | [],σ,φ=>some (σ,φ)
 | p::ps,σ,φ=>match look σ0.hp p with
  | some (.var cs)=>bif !(Nat.beq p b)&&cs.all (fun c=>c.freeC b||c.isOwn b)&&(look σ.hp p).isSome then QyP b z rs us σ0 ps (σ.set p (.var (cs.map (V.frzC b z us)))) (φ∧Qsm b rs us cs)else none
  | _=>none
def QCr (P:Program)(C:Ctx)(T:Tab)(n:Nat):Dir→Pt→List Fr→St→Prop→Option Cfg
 | .o h,.o ops (o::l),ks,σ,φ=>match Qfw ops o (look σ.fr)with
  | some true=>match op1 P C T n h none o σ φ with
   | some (σ',φ')=>some ⟨.o ops l,ks,σ',φ'⟩
   | none=>none
  | _=>none
 | .v h ms u,.o ops (o::l),ks,σ,φ=>match Qfw ops o (look σ.fr)with
  | some true=>match op1 P C T n h (some (ms,u)) o σ φ with
   | some (σ',φ')=>some ⟨.o ops l,ks,σ',φ'⟩
   | none=>none
  | _=>none
 | .st r rs,.o ops (o::l),ks,σ,φ=>match Qfw ops o (look σ.fr)with
  | some true=>match o.dst with
   | none=>match o.op with
    | .store Tx x y=>match σ.opd x with
     | some p=>match σ.opd y with
      | some v=>match storeA T Tx σ φ r rs p v with
       | some (σ',φ')=>some ⟨.o ops l,ks,σ',φ'⟩
       | none=>none
      | none=>none
     | none=>none
    | _=>none
   | some _=>none
  | _=>none
 | .app rs m,.o ops (o::l),ks,σ,φ=>match Qfw ops o (look σ.fr)with
  | some true=>match o.dst with
   | some d=>match o.op with
    | .call c=>match c.callee with
     | .builtin .append=>match c.args.toList with
      | [x,y]=>match c.argTypes.toList with
       | [Tx,Ty]=>match σ.opd x with
        | some p=>match σ.opd y with
         | some v=>match QCp T n σ φ rs m d Tx Ty p v with
          | some (σ',φ')=>some ⟨.o ops l,ks,σ',φ'⟩
          | none=>none
         | none=>none
        | none=>none
       | _=>none
      | _=>none
     | _=>none
    | _=>none
   | none=>none
  | _=>none
 | .x g,.o ops (o::l),ks,σ,φ=>match Qfw ops o (look σ.fr)with
  | some true=>some ⟨.o ops l,ks,g σ,φ∧Stp P C o σ (g σ)⟩
  | _=>none
 | .cm en M N dead ms outs r,.o ops (o::l),ks,σ,φ=>match Qfw ops o (look σ.fr)with
  | some true=>match o.dst with
   | some d=>bif Nat.ble (d+1) n then match o.op with
    | .call c=>match QCo P T σ φ c en with
     | some (f,vs,φ1)=>match cmV P σ φ1 d f vs M N dead ms outs r with
      | some (σ',φ')=>some ⟨.o ops l,ks,σ',φ'⟩
      | none=>none
     | none=>none
    | _=>none
    else none
   | none=>none
  | _=>none
 | .br b,.c (.cond c x y),ks,σ,φ=>match σ.opd c with
  | some (.b t)=>match b with
   | true=>some ⟨.c x,ks,σ,φ∧t=true⟩
   | false=>some ⟨.c y,ks,σ,φ∧t=false⟩
  | _=>none
 | .say t v,pt,ks,σ,φ=>match look σ.fr t with
  | some u=>some ⟨pt,ks,σ.put t v,φ∧u=v⟩
  | none=>none
 | .sayO b ob,pt,ks,σ,φ=>match look σ.hp b with
  | some u=>some ⟨pt,ks,σ.set b ob,φ∧u=ob⟩
  | none=>none
 | .to fr hp,pt,ks,σ,φ=>some ⟨pt,ks,⟨fr,hp⟩,φ∧(Qjl σ.fr fr∧Qhe σ.hp hp∧St.closed ⟨fr,hp⟩=true)⟩
 | .freeze t us,pt,ks,σ,φ=>match look σ.fr t with
  | some (.own b k)=>match look σ.hp b with
   | some (.arr z rs)=>bif !(Nat.ble 615 b)then some ⟨pt,ks,(σ.kill b).put t (.sl z us),φ∧(k≤rs.length∧rs.take k=us)⟩else none
   | _=>none
  | _=>none
 | .adopt t b z,pt,ks,σ,φ=>match look σ.fr t with
  | some (.lit (.slice none 0 0))=>match look σ.hp b with
   | none=>bif Nat.ble 617 b then none else some ⟨pt,ks,(σ.set b (.arr z [])).put t (.own b 0),φ⟩
   | some _=>none
  | _=>none
 | .denil t ms,pt,ks,σ,φ=>match look σ.fr t with
  | some v=>some ⟨pt,ks,σ.put t (v.denil ms),φ⟩
  | none=>none
 | .denilO b ms,pt,ks,σ,φ=>match look σ.hp b with
  | some (.var cs)=>some ⟨pt,ks,σ.set b (.var (QdJ ms cs)),φ⟩
  | _=>none
 | .ren o o',pt,ks,σ,φ=>bif !(Nat.ble 615 o)&&!(Nat.ble 615 o')&&(look σ.hp o').isNone then some ⟨pt,ks,σ.ren o o',φ⟩else none
 | .kill b,pt,ks,σ,φ=>some ⟨pt,ks,σ.kill b,φ⟩
 | .frz b us ts os,pt,ks,σ,φ=>match look σ.hp b with
  | some (.arr z rs)=>bif !(Nat.ble 615 b)then match Qvx b z rs us σ ts (σ.kill b) True with
   | some (σ1,φ1)=>match QyP b z rs us σ os σ1 φ1 with
    | some (σ2,φ2)=>some ⟨pt,ks,σ2,φ∧φ2⟩
    | none=>none
   | none=>none
   else none
  | _=>none
 | .adoptO p i b z,pt,ks,σ,φ=>match look σ.hp p with
  | some (.var cs)=>match cs[i]? with
   | some (.lit (.slice none 0 0))=>match look σ.hp b with
    | none=>bif Nat.beq p b||Nat.ble 617 b then none else some ⟨pt,ks,(σ.set b (.arr z [])).set p (.var (cs.set i (.own b 0))),φ⟩
    | some _=>none
   | _=>none
  | _=>none
 | .keep ts os,pt,ks,σ,φ=>match Qil σ.fr ts with
  | some fr=>match Qil σ.hp os with
   | some hp=>bif St.closed ⟨fr,hp⟩then some ⟨pt,ks,⟨fr,hp⟩,φ⟩else none
   | none=>none
  | none=>none
 | _,_,_,_,_=>none
def plain (P:Program)(C:Ctx)(T:Tab)(n:Nat):Nat→Pt→List Fr→St→Prop→Option Cfg
 | 0,pt,ks,σ,φ=>some ⟨pt,ks,σ,φ⟩
 | k+1,.o ops (o::l),ks,σ,φ=>match Qfw ops o (look σ.fr)with
  | some true=>match op1 P C T n .no none o σ φ with
   | some (σ',φ')=>plain P C T n k (.o ops l) ks σ' φ'
   | none=>none
  | some false=>match o.dst with
   | some d=>bif Nat.ble (d+1) n then plain P C T n k (.o ops l) ks (σ.put d (.lit undef)) φ else none
   | none=>plain P C T n k (.o ops l) ks σ φ
  | none=>none
 | k+1,pt,ks,σ,φ=>match ctl pt ks σ with
  | some (pt',ks')=>plain P C T n k pt' ks' σ φ
  | none=>none
def go (P:Program)(C:Ctx)(T:Tab)(n:Nat):List Dir→Pt→List Fr→St→Prop→Option Cfg
 | [],pt,ks,σ,φ=>some ⟨pt,ks,σ,φ⟩
 | .n k::ds,pt,ks,σ,φ=>match plain P C T n k pt ks σ φ with
  | some ⟨pt',ks',σ',φ'⟩=>go P C T n ds pt' ks' σ' φ'
  | none=>none
 | d::ds,pt,ks,σ,φ=>match QCr P C T n d pt ks σ φ with
  | some ⟨pt',ks',σ',φ'⟩=>go P C T n ds pt' ks' σ' φ'
  | none=>none
end Go.Vm
namespace Go.Vm
open Go Go.RowKit
section
variable {P:Program}{C:Ctx}{T:Tab}{Q:Exit→St→Prop}{n:Nat}{φ:Nat→Option Blk}{σ:St}{a:Act}{w:World}
def QAb (P:Program)(C:Ctx)(Q:Exit→St→Prop)(pt:Pt)(ks:List Fr)(σ:St)(φ:Prop)(c:Cfg):Prop:=c.φ→φ∧(AK P C Q c.pt c.ks c.σ→AK P C Q pt ks σ)
theorem Qpf {φ:Prop}{q:Option Prop}{v:V}{ob:Option Ob}(h:Qpe φ q):φ∧Rs.holds ⟨v,ob,q⟩:=by
 cases q with
 | none=>exact⟨h,trivial⟩
 | some p=>exact h
theorem QBf {pt pt':Pt}{ks ks':List Fr}{σ:St}(h:ctl pt ks σ=some (pt',ks'))(k:AK P C Q pt' ks' σ):AK P C Q pt ks σ:=by
 unfold ctl at h
 split at h
 ·cases h;exact AK.seq k
 ·cases h;exact AK.block k
 ·cases h;exact AK.region k
 ·cases h;exact AK.skip k
 ·cases h;exact AK.label k
 ·cases h;exact AK.exit k
 ·cases h;exact AK.ret k
 ·split at h
  ·rename_i hc;cases h;exact AWp.cond_true hc k
  ·rename_i hc;cases h;exact AWp.cond_false hc k
  cases h
 ·cases h;exact AK.nil k
 ·cases h;exact AK.popSeq k
 ·cases h;exact AK.popBlk k
 ·cases h;exact AK.exSeq k
 ·cases h;exact AK.exCut k
 ·rename_i _ i j ks
  cases hb:Nat.beq i j with
  | true=>rw [hb]at h;cases h;exact AK.exBlk hb k
  | false=>rw [hb]at h;cases h;exact AK.exBlk' hb k
 ·cases h;exact AK.retPop k
 cases h
theorem QnT {ops:Array Oper}{o:Oper}{f:Nat→Option V}{b:Bool}(h:Qfw ops o f=some b):
  (o.guard=none∧b=true)∨∃j t d,o.guard=some (j,t)∧((ops[j]?).bind (·.dst))=some d∧((∃u,f d=some (.b u)∧b=(u==t))∨(f d=some (.lit undef)∧b=false)):=by
 unfold Qfw at h
 split at h
 ·rename_i hg;cases h;exact .inl ⟨hg,rfl⟩
 rename_i j t hg
 split at h
 ·rename_i oj hj
  split at h
  ·rename_i d hd
   have hjd:((ops[j]?).bind (·.dst))=some d:=by rw [hj];exact hd
   refine .inr ⟨j,t,d,hg,hjd,?_⟩
   split at h
   ·rename_i hf;cases h;exact .inl ⟨true,hf,by simp⟩
   ·rename_i hf;cases h;exact .inl ⟨false,hf,by simp⟩
   ·rename_i v _ _ hf
    obtain⟨h1,h⟩:=Qam h
    cases h
    exact .inr ⟨by rw [hf,V.isUnd_eq h1],rfl⟩
   cases h
  cases h
 cases h
theorem AL.want {ops:Array Oper}{o:Oper}{l:List Oper}{σ σ':St}{Q:Exit→St→Prop}(h:Qfw ops o (look σ.fr)=some true)(hs:Stp P C o σ σ')(k:AL P C ops l σ' Q):AL P C ops (o::l) σ Q:=by
 rcases QnT h with⟨hg,_⟩|⟨j,t,d,hg,hj,⟨u,hu,hb⟩|⟨_,hb⟩⟩
 ·exact AL.cons hg hs k
 ·have:u=t:=by simpa using hb.symm
  exact AL.consGT hg hj hu this hs k
 cases hb
theorem AL.pass {ops:Array Oper}{o:Oper}{l:List Oper}{σ:St}{Q:Exit→St→Prop}{d:Nat}(h:Qfw ops o (look σ.fr)=some false)(hd:o.dst=some d)(hn:Nat.ble (d+1) C.n=true)(k:AL P C ops l (σ.put d (.lit undef)) Q):AL P C ops (o::l) σ Q:=by
 rcases QnT h with⟨_,hb⟩|⟨j,t,e,hg,hj,⟨u,hu,hb⟩|⟨hu,_⟩⟩
 ·cases hb
 ·have:u=!t:=by cases u<;>cases t<;>first | rfl | cases hb
  exact AL.consNT hg hj hu this hd hn k
 exact AL.consU hg hj hu hd hn k
theorem AL.pass0 {ops:Array Oper}{o:Oper}{l:List Oper}{σ:St}{Q:Exit→St→Prop}(h:Qfw ops o (look σ.fr)=some false)(hd:o.dst=none)(k:AL P C ops l σ Q):AL P C ops (o::l) σ Q:=by
 rcases QnT h with⟨_,hb⟩|⟨j,t,e,hg,hj,⟨u,hu,hb⟩|⟨hu,_⟩⟩
 ·cases hb
 ·have:u=!t:=by cases u<;>cases t<;>first | rfl | cases hb
  exact AL.consNT0 hg hj hu this hd k
 exact AL.consU0 hg hj hu hd k
theorem RR.putDenil {d:Nat}{v:V}{ms:List (Option Nat)}(h:RR C φ (σ.put d v) a w):RR C φ (σ.put d (v.denil ms)) a w:=by
 obtain⟨x,hx,hrep⟩:=h.frame d v (Qx _ _ _)
 refine(h.say hx (hrep.denil (ms:=ms))).le fun t u hu=>?_
 by_cases e:d=t
 ·subst e
  have hu:look ((d,v.denil ms)::σ.fr) d=some u:=hu
  rw [Qx]at hu
  show look ((d,v.denil ms)::_) d=some u
  rw [Qx];exact hu
 have hu:look ((d,v.denil ms)::σ.fr) t=some u:=hu
 rw [Qw _ _ e]at hu
 show look ((d,v.denil ms)::(d,v)::σ.fr) t=some u
 rw [Qw _ _ e,Qw _ _ e];exact hu
theorem Stp.denil {o:Oper}{σ σ':St}{d:Nat}{v:V}{ms:List (Option Nat)}(h:Stp P C o σ (σ'.put d v)):Stp P C o σ (σ'.put d (v.denil ms)):=
 fun a w hR next Q hn=>h a w hR next Q fun a' w' ⟨φ,hr⟩=>hn a' w' ⟨φ,hr.putDenil⟩
theorem QtE {h:Qj2}{sv:Option (List (Option Nat)×V)}{o:Oper}{σ σ':St}{φ φ':Prop}(ok:Qdw P T)(hN:QeY P C n)(e:op1 P C T n h sv o σ φ=some (σ',φ'))(hφ:φ'):φ∧Stp P C o σ σ':=by
 have hn:=hN.n
 unfold op1 at e
 split at e
 ·rename_i d hd
  replace e:=Qam e;obtain⟨e1,e⟩:=e
  rw [←hn]at e1
  split at e
  ·rename_i v q hev
   have key:∀q':Prop,Qpe φ q∧q'→φ∧Stp P C o σ (σ.put d v):=fun q' h=>by
    obtain⟨a,b⟩:=Qpf h.1
    exact⟨a,QtD ok hd e1 hN.g (fun _ _ h=>h) (fun _ _ h=>h) hev b (fun h=>by cases h)⟩
   split at e
   ·cases e;exact key True ⟨hφ,trivial⟩
   cases e;obtain⟨a,b⟩:=hφ;subst b;obtain⟨a1,a2⟩:=key True ⟨a,trivial⟩;exact⟨a1,a2.denil⟩
  ·rename_i v ob q hev
   split at e
   ·rename_i hl
    have key:∀q':Prop,Qpe φ q∧q'→φ∧Stp P C o σ ((σ.set d ob).put d v):=fun q' h=>by
     obtain⟨a,b⟩:=Qpf h.1
     exact⟨a,QtD ok hd e1 hN.g (fun _ _ h=>h) (fun _ _ h=>h) hev b (fun _=>hl)⟩
    split at e
    ·cases e;exact key True ⟨hφ,trivial⟩
    cases e;obtain⟨a,b⟩:=hφ;subst b;obtain⟨a1,a2⟩:=key True ⟨a,trivial⟩;exact⟨a1,a2.denil⟩
   cases e
  cases e
 rename_i hd
 split at e
 ·rename_i Tx x y ho
  split at e
  ·rename_i p hp
   split at e
   ·rename_i v hv
    unfold QBe at e
    split at e
    ·rename_i b i off v
     split at e
     ·rename_i cs hb
      split at e
      ·split at e
       ·rename_i k hk
        replace e:=Qam e;obtain⟨e2,e⟩:=e
        cases e
        simp only [QE]at e2
        obtain⟨⟨⟨a1,a2⟩,a3⟩,a4⟩:=e2
        exact⟨hφ,Stp.storeL ho hd hp hb hv (V.isV_or a1) (ok.sz hk) (QaF a2) a3 a4 rfl⟩
       cases e
      cases e
     cases e
    cases e
   cases e
  cases e
 cases e
theorem QAc {o:Oper}{σ σ':St}{φ φ':Prop}{rs':List (List V)}{m d Tx Ty:Nat}{x y:Operand}{p v:V}(ok:Qdw P T)(hN:QeY P C n)(ho:o.op=.call { callee:=.builtin .append,args:=#[x,y],argTypes:=#[Tx,Ty] })(hd:o.dst=some d)
  (hx:σ.opd x=some p) (hy:σ.opd y=some v) (e:QCp T n σ φ rs' m d Tx Ty p v=some (σ',φ')) (hφ:φ'):φ∧Stp P C o σ σ':=by
 have hn:=hN.n
 unfold QCp at e
 split at e
 ·rename_i b k y'
  split at e
  ·rename_i z rs hb
   split at e
   ·rename_i et z' by_ hes
    split at e
    ·rename_i zs hz
     replace e:=Qam e;obtain⟨e1,e⟩:=e
     simp only [QE,Qfr]at e1
     obtain⟨⟨⟨⟨⟨⟨a1,a2⟩,a3⟩,a4⟩,a5⟩,a6⟩,a7⟩:=e1
     have a4:=QaF a4;subst a4
     have a5:=QaF a5
     have a6:z≠0:=fun h0=>by rw [h0]at a6;cases a6
     rw [←hn]at a2
     obtain⟨⟨e2,z2,by2⟩,hU⟩:∃q,QaL P Ty=some q:=by
      cases hl:look T.es Ty with
      | none=>rw [hl]at a1;cases a1
      | some q=>exact⟨q,ok.es hl⟩
     split at e
     ·rename_i z'' us
      replace e:=Qam e;obtain⟨e3,e⟩:=e
      have:=QaF e3;subst this
      cases e
      obtain⟨h0,h1,h2,h3,h4⟩:=hφ
      exact⟨h0,Stp.appS ho hd a2 hx hb a3 h1 (ok.es hes) hU (ok.zv hz) a5 a6 a7 h2 hy h3 h4⟩
     ·rename_i b' k'
      split at e
      ·rename_i z'' us hb'
       replace e:=Qam e;obtain⟨e3,e⟩:=e
       have:=QaF e3;subst this
       cases e
       obtain⟨h0,h1,h2,h3,h4,h5⟩:=hφ
       exact⟨h0,Stp.appO ho hd a2 hx hb a3 h1 (ok.es hes) hU (ok.zv hz) a5 a6 a7 h2 hy hb' h3 h4 h5⟩
      cases e
     ·cases e
      obtain⟨h0,h1,h2⟩:=hφ
      exact⟨h0,Stp.appN ho hd a2 hx hb a3 h1 (ok.es hes) hU (ok.zv hz) a5 a6 a7 h2 hy⟩
     cases e
    cases e
   cases e
  cases e
 cases e
theorem QyQ {o:Oper}{σ σ':St}{φ φ':Prop}{Tx:TypeId}{x y:Operand}{p v:V}{r:List V}{rs':List (List V)}(ok:Qdw P T)(ho:o.op=.store Tx x y)(hd:o.dst=none)(hx:σ.opd x=some p)(hy:σ.opd y=some v)
  (e:storeA T Tx σ φ r rs' p v=some (σ',φ')) (hφ:φ'):φ∧Stp P C o σ σ':=by
 unfold storeA at e
 split at e
 ·rename_i b i off v
  split at e
  ·rename_i z rs hb
   split at e
   ·rename_i k hk
    replace e:=Qam e;obtain⟨e2,e⟩:=e
    cases e
    simp only [QE]at e2
    obtain⟨⟨⟨⟨a1,a2⟩,a3⟩,a4⟩,a5⟩:=e2
    exact⟨hφ.1,Stp.storeA ho hd hx hb hφ.2.1 hy (V.isV_or a1) (ok.sz hk) (QaF a2) a3 a4 a5 hφ.2.2⟩
   cases e
  cases e
 cases e
theorem R.say {σ:St}{t:Nat}{v:V}(h:∃u,look σ.fr t=some u∧u=v){a:Act}{w:World}(hR:R C σ a w):R C (σ.put t v) a w:=by
 obtain⟨u,hu,rfl⟩:=h
 obtain⟨φ,hr⟩:=hR
 obtain⟨x,hx,hrep⟩:=hr.frame t _ hu
 exact⟨φ,hr.say hx hrep⟩
theorem RR.sayOb (h:RR C φ σ a w){b:Nat}{ob ob':Ob}(hb:look σ.hp b=some ob)(hs:∀B,φ b=some B→Qa0 φ (Imm C φ w) w B ob→Qa0 φ (Imm C φ w) w B ob')(he:ob=ob'∨∀z,ob≠.arr z []):RR C φ (σ.set b ob') a w:=by
 rcases he with rfl | hne
 ·refine⟨h.os,h.tape,h.output,h.size,h.kept,h.inj,fun o B hB=>?_,h.lt,h.new,h.stay.set hb,h.tmps,h.defers,h.frame,fun o ob'' ho=>?_⟩
  ·by_cases e:o=b
   ·subst e;exact⟨_,σ.look_set_same _ _⟩
   rw [σ.look_set_other _ (Ne.symm e)];exact h.dom o B hB
  by_cases e:o=b
  ·subst e;rw [σ.look_set_same]at ho;cases ho;exact h.heap _ _ hb
  rw [σ.look_set_other _ (Ne.symm e)]at ho;exact h.heap _ _ ho
 exact h.say' hb hs hne
theorem R.sayO {σ:St}{b:Nat}{ob:Ob}(h:∃u,look σ.hp b=some u∧u=ob){a:Act}{w:World}(hR:R C σ a w):R C (σ.set b ob) a w:=by
 obtain⟨u,hu,rfl⟩:=h
 obtain⟨φ,hr⟩:=hR
 exact⟨φ,hr.sayOb hu (fun _ _ h=>h) (.inl rfl)⟩
theorem R.denil {σ:St}{t:Nat}{v:V}{ms:List (Option Nat)}(h:look σ.fr t=some v){a:Act}{w:World}(hR:R C σ a w):R C (σ.put t (v.denil ms)) a w:=by
 obtain⟨φ,hr⟩:=hR
 obtain⟨x,hx,hrep⟩:=hr.frame t _ h
 exact⟨φ,hr.say hx hrep.denil⟩
theorem R.denilO {σ:St}{b:Nat}{cs:List V}{ms:List (Option Nat)}(h:look σ.hp b=some (.var cs)){a:Act}{w:World}(hR:R C σ a w):R C (σ.set b (.var (QdJ ms cs))) a w:=by
 obtain⟨φ,hr⟩:=hR
 refine⟨φ,hr.sayOb h (fun B hB hrep=>?_) (.inr fun z e=>by cases e)⟩
 obtain⟨xs,E,h1,h2,h0,h3⟩:=hrep
 refine⟨xs,E,h1,by rw [Qsc];exact h2,h0,fun j x v hx hv=>?_⟩
 obtain⟨m,v',hv',rfl⟩:=Qo9 _ _ j v hv
 exact(h3 j x v' hx hv').den1
section
variable {hp:List (Nat×Ob)}{g:Bool}{bad:List Nat}{m:Nat→Nat→Prop}{bk:Nat→Option Nat}
theorem QtF (hm:∀a b,bk a=some b→m a b):∀(v:V) {u:V},trC bk v=some u→Vw hp g false bad m v u
 | .own a n,u,h=>by rw [trC]at h;split at h<;>first | (rename_i b hb;cases h;exact .own _ _ _ (hm _ _ hb)) | cases h
 | .loc a i d,u,h=>by rw [trC]at h;split at h<;>first | (rename_i b hb;cases h;exact .loc _ _ _ _ (hm _ _ hb)) | cases h
 | .map a,u,h=>by rw [trC]at h;split at h<;>first | (rename_i b hb;cases h;exact .map _ _ (hm _ _ hb)) | cases h
 | .ifc t x,u,h=>by
  rw [trC]at h
  split at h
  ·rename_i y hy;cases h;exact .ifc _ _ _ (QtF hm x hy)
  cases h
 | .b _,u,h | .i _ _,u,h | .s _,u,h | .sl _ _,u,h | .ro _,u,h | .agg _,u,h | .tup _,u,h | .clo _ _ _,u,h | .lit _,u,h | .J,u,h=>by
  have h:=Qam (show(bif V.datA _ then some _ else none)=some u from h)
  obtain⟨h1,h2⟩:=h
  cases h2
  exact .dat _ h1 (fun e=>by cases e)
theorem Qqr (hm:∀a b,bk a=some b→m a b):∀{vs us:List V},trL bk vs=some us→vs.length=us.length∧∀(j:Nat) c u,vs[j]? = some c→us[j]? = some u→Vw hp g false bad m c u:=by
 intro vs
 induction vs with
 | nil=>intro us h;cases h;simp
 | cons v vs ih=>
  intro us h
  rw [trL]at h
  split at h
  ·rename_i u hu
   split at h
   ·rename_i us' hus
    cases h
    obtain⟨a,b⟩:=ih hus
    refine⟨by simp [a],fun j c w hc hw=>?_⟩
    cases j with
    | zero=>simp at hc hw;subst hc;subst hw;exact QtF hm _ hu
    | succ j=>simp at hc hw;exact b j c w hc hw
   cases h
  cases h
theorem Ql9 (hm:∀a b,bk a=some b→m a b){v u:V}(h:trV bk v=some u):Vw hp g false bad m v u:=by
 unfold trV at h
 split at h
 ·rename_i cs
  cases hd:(V.agg cs).datA with
  | true=>rw [hd]at h;cases h;exact .dat _ hd (fun e=>by cases e)
  | false=>
   rw [hd]at h;dsimp only [cond_false]at h
   split at h
   ·rename_i us hus;cases h;obtain⟨a,b⟩:=Qqr hm hus;exact .agg _ _ a b
   cases h
 ·rename_i cs
  cases hd:(V.tup cs).datA with
  | true=>rw [hd]at h;cases h;exact .dat _ hd (fun e=>by cases e)
  | false=>
   rw [hd]at h;dsimp only [cond_false]at h
   split at h
   ·rename_i us hus;cases h;obtain⟨a,b⟩:=Qqr hm hus;exact .tup _ _ a b
   cases h
 ·split at h
  ·rename_i us hus
   split at h
   ·rename_i ds hds;cases h;obtain⟨a,b⟩:=Qqr hm hus;obtain⟨a',b'⟩:=Qqr hm hds;exact .clo _ _ _ _ _ a a' b b'
   cases h
  cases h
 exact QtF hm _ h
theorem Qwm (hm:∀a b,bk a=some b→m a b):∀{vs us:List V},QyN bk vs=some us→vs.length=us.length∧∀(j:Nat) c u,vs[j]? = some c→us[j]? = some u→Vw hp g false bad m c u:=by
 intro vs
 induction vs with
 | nil=>intro us h;cases h;simp
 | cons v vs ih=>
  intro us h
  rw [QyN]at h
  split at h
  ·rename_i u hu
   split at h
   ·rename_i us' hus
    cases h
    obtain⟨a,b⟩:=ih hus
    refine⟨by simp [a],fun j c w hc hw=>?_⟩
    cases j with
    | zero=>simp at hc hw;subst hc;subst hw;exact Ql9 hm hu
    | succ j=>simp at hc hw;exact b j c w hc hw
   cases h
  cases h
theorem QBh (hm:∀a b,bk a=some b→m a b){ob ob':Ob}(h:trO bk ob=some ob'):ObW hp g false bad m ob ob':=by
 unfold trO at h
 split at h
 ·split at h
  ·rename_i us hus;cases h;obtain⟨a,b⟩:=Qwm hm hus;exact .var _ _ a b
  cases h
 ·split at h
  ·rename_i us hus;cases h;obtain⟨a,b⟩:=Qwm hm hus;exact .lp _ _ _ _ _ a b
  cases h
 ·cases h;exact .arr _ _ (fun e=>by cases e)
 ·cases h;exact .map _ (fun e=>by cases e)
 ·cases h;exact .grp _ _ _ rfl
 cases h
theorem Qi2 (hm:∀a b,bk a=some b→m a b):∀{ms:List Mode} {vs us:List V},Qms bk ms vs=some us→Vws hp g false bad m vs us:=by
 intro ms
 induction ms with
 | nil=>intro vs us h;cases vs with
  | nil=>cases h;exact .nil
  | cons=>cases h
 | cons md ms ih=>
  intro vs us h
  cases vs with
  | nil=>cases h
  | cons v vs=>
   rw [Qms]at h
   split at h
   ·rename_i u hu
    split at h
    ·rename_i us' hus
     cases h
     refine .cons ?_ (ih hus)
     unfold QD2 at hu
     split at hu
     ·cases hu;exact .nil _
     ·exact Ql9 hm hu
     cases hu
    cases h
   cases h
theorem Qc9 (hm:∀a b,bk a=some b→m a b){src:List (Nat×Ob)}:∀{M:List (Nat×Nat)} {l:List (Nat×Ob)},Qi8 bk (look src) M=some l→Qk7 hp g false bad m src M l:=by
 intro M
 induction M with
 | nil=>intro l h;cases h;exact .nil
 | cons p M ih=>
  intro l h
  obtain⟨d,s⟩:=p
  rw [Qi8]at h
  split at h
  ·rename_i ob hob
   split at h
   ·rename_i ob' hob'
    split at h
    ·rename_i l' hl;cases h;exact .cons hob (QBh hm hob') (ih hl)
    cases h
   cases h
  cases h
theorem Qgw : ∀{M:List (Nat×Nat)} {a b:Nat},bkM M a=some b→(b,a)∈M:=by
 intro M
 induction M with
 | nil=>intro a b h;cases h
 | cons p M ih=>
  intro a b h
  obtain⟨b',a'⟩:=p
  rw [bkM]at h
  cases hb:Nat.beq a' a with
  | true=>rw [hb]at h;cases h;rw [QaF hb];exact Qaz
  | false=>rw [hb]at h;exact QaC _ (ih h)
end
theorem QAd {o:Oper}{σ:St}{φ φ':Prop}{c:Call}{en:Ent}{f:Nat}{vs:List V}(ok:Qdw P T)(ho:o.op=.call c)(e:QCo P T σ φ c en=some (f,vs,φ'))(hφ:φ'):φ∧QbN P C o σ f vs:=by
 obtain⟨ce,ags,ts⟩:=c
 unfold QCo at e
 split at e
 ·split at e
  ·rename_i f' hc
   dsimp only at hc;subst hc
   replace e:=Qam e;obtain⟨e1,e⟩:=e
   split at e
   ·rename_i vs' hv;cases e;exact⟨hφ,QbN.fn ho (ok.en e1) (QfY (fun _ _ h=>h) hv)⟩
   cases e
  cases e
 ·split at e
  ·rename_i x hc
   dsimp only at hc;subst hc
   split at e
   ·rename_i f' fs cs hx
    replace e:=Qam e;obtain⟨e1,e⟩:=e
    split at e
    ·rename_i vs' hv;cases e;exact⟨hφ,QbN.clo ho hx (ok.en e1) (QfY (fun _ _ h=>h) hv)⟩
    cases e
   cases e
  cases e
 ·split at e
  ·rename_i x name hc
   dsimp only at hc;subst hc
   split at e
   ·rename_i t u hx
    replace e:=Qam e;obtain⟨e1,e⟩:=e
    split at e
    ·rename_i vs' hv;cases e;exact⟨hφ.1,QbN.meth (r:=u) ho hx hφ.2 (ok.en e1) (QfY (fun _ _ h=>h) hv)⟩
    cases e
   cases e
  cases e
 split at e
 ·rename_i x name hc
  dsimp only at hc;subst hc
  split at e
  ·rename_i t b hx
   split at e
   ·rename_i r hb
    replace e:=Qam e;obtain⟨e1,e⟩:=e
    split at e
    ·rename_i vs' hv;cases e;exact⟨hφ.1,QbN.methV ho hx hφ.2.1 hφ.2.2.1 hφ.2.2.2 hb (ok.en e1) (QfY (fun _ _ h=>h) hv)⟩
    cases e
   cases e
  cases e
 cases e
theorem QBi {o:Oper}{σ σ':St}{φ φ':Prop}{d f:Nat}{vs:List V}{M N:List (Nat×Nat)}{dead:List Nat}{ms:List Mode}{outs:List (Nat×Ob)}{r:V}(hE:QbN P C o σ f vs)(hd:o.dst=some d)(hn:Nat.ble (d+1) C.n=true)(hpg:C.pg P)
  (e:cmV P σ φ d f vs M N dead ms outs r=some (σ',φ')) (hφ:φ'):φ∧Stp P C o σ σ':=by
 unfold cmV at e
 replace e:=Qam e;obtain⟨e1,e⟩:=e
 simp only [QE]at e1
 obtain⟨⟨h1,h2⟩,h3⟩:=e1
 have h2:=QcM.1 h2
 have h3:=QcM.1 h3
 have inj:Qik M=true∧Qik N=true:=by
  simp only [QdL,QE]at h1
  exact⟨h1.1.1.1,h1.1.1.2⟩
 have mM:∀a b,bkM M a=some b→look M b=some a:=fun a b h=>QbO inj.1 (Qgw h) h2
 have mN:∀a b,bkM N a=some b→look N b=some a:=fun a b h=>QbO inj.2 (Qgw h) h3
 split at e
 ·rename_i us hus
  split at e
  ·rename_i hsC hC
   split at e
   ·rename_i hsN hN
    split at e
    ·rename_i r' hr
     cases e
     exact⟨hφ.1,Stp.callM (g:=false) hE hd hn hpg h1 h2 (Qi2 mM hus) (Qc9 mM hC) hφ.2 (Qc9 mN hN) (Ql9 mN hr)⟩
    cases e
   cases e
  cases e
 cases e
theorem QCs {l:List (Nat×V)}:∀{ts:List Nat} {r:List (Nat×V)},Qil l ts=some r→Qjl l r:=by
 intro ts
 induction ts with
 | nil=>intro r h;cases h;trivial
 | cons t ts ih=>
  intro r h
  rw [Qil]at h
  split at h
  ·rename_i v hv
   split at h
   ·rename_i r' hr;cases h;exact⟨hv,ih hr⟩
   cases h
  cases h
theorem QCt {l:List (Nat×Ob)}:∀{ts:List Nat} {r:List (Nat×Ob)},Qil l ts=some r→Qhe l r:=by
 intro ts
 induction ts with
 | nil=>intro r h;cases h;trivial
 | cons t ts ih=>
  intro r h
  rw [Qil]at h
  split at h
  ·rename_i v hv
   split at h
   ·rename_i r' hr;cases h;exact⟨hv,ih hr⟩
   cases h
  cases h
theorem RR.thaw (hr:RR C φ σ a w){b n z:Nat}{rs us:List (List V)}(hp:Nat.ble 615 b=false)(hb:look σ.hp b=some (.arr z rs)){x:Value}(hrep:Rep φ (Imm C φ w) w x (.own b n))(hle:n≤rs.length)(hu:rs.take n=us):
  Rep (del φ b) (Imm C (del φ b) w) w x (.sl z us):=by
 subst hu
 refine .dat ?_
 rcases hrep.own_inv with⟨rfl,rfl⟩|⟨B,hB,hcap,rfl⟩
 ·simp only [List.take_zero];exact .sl0 _ _ _
 obtain⟨rfl,hrl,hok,cs,E,h1,h2,h3⟩:=hr.block hB hb
 have hIb:Imm C (del φ b) w B.b:=by
  refine⟨(hr.lt b B _ hB B.self).1,fun hlt=>?_,fun o B' hB' e=>?_⟩
  ·have hb':b<615:=by
    rcases QeB b 615 with h | h
    ·exact h
    rw [Qml h]at hp;cases hp
   have:=hr.new b B _ hB B.self hb';omega
  obtain⟨h4,h5⟩:=QbM hB'
  exact h4 (hr.inj o b B' B _ h5 hB e B.self)
 refine .sl B.b B.off n B.cap B.z _ (fun j=>cs.getD (B.off+j) undef) hIb (by simp;omega) hcap (fun r hr'=>hok r (Qii hr')) (fun j hj=>?_) (fun i r hi j v hj=>?_)
 ·have hle2:n*B.z≤B.cap*B.z:=Qcw _ hcap
  have:B.off+j<cs.size:=by omega
  simp [World.cell?,h1,Array.getD,this]
 have hi':rs[i]? = some r:=by
  rw [QcK]at hi
  by_cases hin:i<n
  ·rwa [if_pos hin]at hi
  rw [if_neg hin]at hi;simp at hi
 obtain⟨y,hy,hd⟩:=h3 i r hi' j v hj
 have:cs.getD (B.off+(i*B.z+j)) undef=y:=by simp [Qo4,hy]
 rw [this]
 exact hd.mono fun k hk=>⟨hk.of_del,rfl⟩
section
variable {b z:Nat}{rs us:List (List V)}{σ0:St}
theorem RR.frzC (hr:RR C φ σ a w)(hp:Nat.ble 615 b=false)(hb:look σ.hp b=some (.arr z rs)){x:Value}{v:V}(h:Rep φ (Imm C φ w) w x v)(hq:QyO b rs us v)(hf:v.freeC b=true∨∃k,v=.own b k):
  Rep (del φ b) (Imm C (del φ b) w) w x (v.frzC b z us):=by
 rcases hf with hf | ⟨k,rfl⟩
 ·have:v.frzC b z us=v:=by
   unfold V.frzC
   split
   ·rename_i o k
    have:Nat.beq o b=false:=by simpa [V.freeC,V.freeN] using hf
    rw [this];rfl
   rfl
  rw [this]
  exact Rep.freeC (fun o B ho hB=>by rw [QcU ho];exact hB) (fun k hk=>⟨hk.of_del,rfl⟩) h hf
 have e:Nat.beq b b=true:=Nat.beq_refl b
 simp only [QyO,e,cond_true]at hq
 simp only [V.frzC,e,cond_true]
 exact hr.thaw hp hb h hq.1 hq.2
theorem QxS {cs:List V}(h:Qsm b rs us cs):∀(j:Nat) v,cs[j]? = some v→QyO b rs us v:=by
 induction cs with
 | nil=>intro j v hj;simp at hj
 | cons c cs ih=>
  intro j v hj
  have h2:Qsm b rs us cs:=by
   unfold Qsm at h
   split at h
   ·rename_i e;cases e
   ·rename_i e;cases e;exact h.2
   rename_i e;cases e;exact h
  cases j with
  | zero=>
   simp at hj;subst hj
   cases c with
   | own o k=>exact h.1
   | _=>trivial
  | succ j=>exact ih h2 j v (by simpa using hj)
end
section
variable {b z:Nat}{rs us:List (List V)}{σ0:St}
theorem QyR {v:V}(h:(v.freeC b||v.isOwn b)=true):v.freeC b=true∨∃k,v=.own b k:=by
 rw [Qdt]at h
 rcases h with h | h
 ·exact .inl h
 unfold V.isOwn at h
 split at h
 ·rename_i o k;rw [QaF h];exact .inr ⟨k,rfl⟩
 cases h
theorem RR.frzV (hr:RR C φ σ0 a w)(hp:Nat.ble 615 b=false)(hb:look σ0.hp b=some (.arr z rs)){x:Value}{v:V}(h:Rep φ (Imm C φ w) w x v)(hq:QCq b rs us v)(hf:v.frzB b=true):
  Rep (del φ b) (Imm C (del φ b) w) w x (v.frz b z us):=by
 unfold V.frz
 unfold QCq at hq
 unfold V.frzB at hf
 split at hq
 ·rename_i cs
  obtain⟨xs,rfl,hs,hc⟩:=h.agg_inv
  refine .agg xs _ (by simpa using hs) fun j y u hy hu=>?_
  rw [Qau]at hu
  obtain⟨c,hcj,rfl⟩:=Qaq.1 hu
  dsimp only at hf
  rw [Qah]at hf
  exact hr.frzC hp hb (hc j y c hy hcj) (QxS hq j c hcj) (QyR (hf c (Qan hcj)))
 rename_i hne
 have hf':(v.freeC b||v.isOwn b)=true:=by
  split at hf
  ·exact absurd rfl (hne _)
  exact hf
 exact hr.frzC hp hb h hq (QyR hf')
theorem QAe (hr:RR C φ σ0 a w)(hp:Nat.ble 615 b=false)(hb:look σ0.hp b=some (.arr z rs)):∀{ts:List Nat} {σ σ':St} {ψ ψ':Prop},Qvx b z rs us σ0 ts σ ψ=some (σ',ψ')→ψ'→ψ∧(RR C (del φ b) σ a w→RR C (del φ b) σ' a w):=by
 intro ts
 induction ts with
 | nil=>intro σ σ' ψ ψ' h h';cases h;exact⟨h',id⟩
 | cons t ts ih=>
  intro σ σ' ψ ψ' h h'
  rw [Qvx]at h
  split at h
  ·rename_i v hv
   replace h:=Qam h;obtain⟨h0,h⟩:=h
   obtain⟨⟨h1,h2⟩,h3⟩:=ih h h'
   refine⟨h1,fun k=>h3 ?_⟩
   obtain⟨x,hx,hrep⟩:=hr.frame t v hv
   exact k.say hx (hr.frzV hp hb hrep h2 h0)
  cases h
theorem QAf (hr:RR C φ σ0 a w)(hp:Nat.ble 615 b=false)(hb:look σ0.hp b=some (.arr z rs)):∀{os:List Nat} {σ σ':St} {ψ ψ':Prop},QyP b z rs us σ0 os σ ψ=some (σ',ψ')→ψ'→ψ∧(RR C (del φ b) σ a w→(∀p cs ob,look σ0.hp p=some (.var cs)→look σ.hp p=some ob→∀z,ob≠.arr z [])→RR C (del φ b) σ' a w):=by
 intro os
 induction os with
 | nil=>intro σ σ' ψ ψ' h h';cases h;exact⟨h',fun k _=>k⟩
 | cons p ps ih=>
  intro σ σ' ψ ψ' h h'
  rw [QyP]at h
  split at h
  ·rename_i cs hcs
   replace h:=Qam h;obtain⟨h0,h⟩:=h
   simp only [QE,Qfr]at h0
   obtain⟨⟨g1,g2⟩,g3⟩:=h0
   obtain⟨⟨h1,h2⟩,h3⟩:=ih h h'
   refine⟨h1,fun k hv=>h3 ?_ ?_⟩
   ·have hne:p≠b:=fun e=>by subst e;rw [Nat.beq_refl]at g1;cases g1
    obtain⟨ob,hob⟩:=Option.isSome_iff_exists.1 g3
    refine k.sayOb hob (fun B hB _=>?_) (.inr (hv p cs ob hcs hob))
    obtain⟨_,hB'⟩:=QbM hB
    rcases hr.heap p _ hcs with⟨B',hB'',hrep⟩|⟨hn,_⟩
    ·rw [hB']at hB'';cases hB''
     obtain⟨xs,E,e1,e2,e0,e3⟩:=hrep
     refine⟨xs,E,e1,by simpa using e2,e0,fun j x v hx hv'=>?_⟩
     rw [Qau]at hv'
     obtain⟨c,hcj,rfl⟩:=Qaq.1 hv'
     rw [Qah]at g2
     exact hr.frzC hp hb (e3 j x c hx hcj) (QxS h2 j c hcj) (QyR (g2 c (Qan hcj)))
    rw [hn]at hB';cases hB'
   intro p' cs' ob' e1 e2 z' e3
   by_cases e:p=p'
   ·subst e;rw [St.look_set_same]at e2;cases e2;cases e3
   rw [St.look_set_other _ _ e]at e2;exact hv p' cs' ob' e1 e2 z' e3
  cases h
end
theorem R.frz {b z:Nat}{rs us:List (List V)}{σ σ1 σ2:St}{ts os:List Nat}{φ1 φ2:Prop}(hp:Nat.ble 615 b=false)(hb:look σ.hp b=some (.arr z rs))(h1:Qvx b z rs us σ ts (σ.kill b) True=some (σ1,φ1))(h2:QyP b z rs us σ os σ1 φ1=some (σ2,φ2))(hφ:φ2)
  {a:Act} {w:World} (hR:R C σ a w):R C σ2 a w:=by
 obtain⟨φ,hr⟩:=hR
 obtain⟨e1,e2⟩:=QAf hr hp hb h2 hφ
 obtain⟨_,e3⟩:=QAe hr hp hb h1 e1
 refine⟨_,e2 (e3 (hr.kill b)) fun p cs ob g1 g2 z' g3=>?_⟩
 have key:∀{ts:List Nat} {σ' σ'':St} {ψ ψ':Prop},Qvx b z rs us σ ts σ' ψ=some (σ'',ψ')→σ''.hp=σ'.hp:=by
  intro ts
  induction ts with
  | nil=>intro σ' σ'' ψ ψ' h;cases h;rfl
  | cons t ts ih=>
   intro σ' σ'' ψ ψ' h
   rw [Qvx]at h
   split at h
   ·replace h:=Qam h;obtain⟨_,h⟩:=h
    rw [ih h];rfl
   cases h
 rw [key h1]at g2
 obtain⟨_,ob',h5,h6⟩:=Qbq _ _ _ g2
 rw [g1]at h5;cases h5
 subst g3;cases h6
theorem R.adoptO {σ:St}{p i b z:Nat}{cs:List V}(hpb:Nat.beq p b=false)(hp:look σ.hp p=some (.var cs))(hi:cs[i]? = some (.lit (.slice none 0 0)))(hlt:b<617)(hb:look σ.hp b=none){a:Act}{w:World}(hR:R C σ a w):
  R C ((σ.set b (.arr z [])).set p (.var (cs.set i (.own b 0)))) a w:=by
 obtain⟨φ,hr⟩:=hR
 have hne:b≠p:=fun e=>by subst e;rw [Nat.beq_refl]at hpb;cases hpb
 have h1:=hr.setNil (z:=z) hlt hb
 have hp':look (σ.set b (.arr z [])).hp p=some (.var cs):=by rw [St.look_set_other _ _ hne];exact hp
 refine⟨φ,h1.sayOb hp' (fun B hB hrep=>?_) (.inr fun z e=>by cases e)⟩
 obtain⟨xs,E,e1,e2,e0,e3⟩:=hrep
 refine⟨xs,E,e1,by simpa using e2,e0,fun j x v hx hv=>?_⟩
 rw [List.getElem?_set]at hv
 split at hv
 ·rename_i hij;subst hij
  split at hv
  ·cases hv
   have:=e3 i x _ hx hi
   rw [this.lit_inv];exact .own0 b
  cases hv
 exact e3 j x v hx hv
theorem QAg {d:Dir}{pt:Pt}{ks:List Fr}{σ:St}{φ:Prop}{c:Cfg}(ok:Qdw P T)(hN:QeY P C n)(e:QCr P C T n d pt ks σ φ=some c):QAb P C Q pt ks σ φ c:=by
 have hn:=hN.n
 unfold QCr at e
 split at e
 ·split at e
  ·rename_i hw
   split at e
   ·rename_i hs;cases e;exact fun hφ=>let ⟨a,b⟩:=QtE ok hN hs hφ;⟨a,fun k=>AL.want hw b k⟩
   cases e
  cases e
 ·split at e
  ·rename_i hw
   split at e
   ·rename_i hs;cases e;exact fun hφ=>let ⟨a,b⟩:=QtE ok hN hs hφ;⟨a,fun k=>AL.want hw b k⟩
   cases e
  cases e
 ·split at e
  ·rename_i hw
   split at e
   ·rename_i hd
    split at e
    ·rename_i ho
     split at e
     ·rename_i hp
      split at e
      ·rename_i hv
       split at e
       ·rename_i hs;cases e;exact fun hφ=>let ⟨a,b⟩:=QyQ ok ho hd hp hv hs hφ;⟨a,fun k=>AL.want hw b k⟩
       cases e
      cases e
     cases e
    cases e
   cases e
  cases e
 ·split at e
  ·rename_i hw
   split at e
   ·rename_i hd
    split at e
    ·rename_i cl ho
     obtain⟨ce,ags,ts⟩:=cl
     split at e
     ·rename_i hce
      dsimp only at hce e;subst hce
      split at e
      ·rename_i x y hxy
       split at e
       ·rename_i Tx Ty hT
        split at e
        ·rename_i p hp
         split at e
         ·rename_i v hv
          split at e
          ·rename_i hs
           have ea:ags=#[x,y]:=by rw [←Qtw (xs:=ags),hxy]
           have et:ts=#[Tx,Ty]:=by rw [←Qtw (xs:=ts),hT]
           subst ea;subst et
           cases e;exact fun hφ=>let ⟨a,b⟩:=QAc ok hN ho hd hp hv hs hφ;⟨a,fun k=>AL.want hw b k⟩
          cases e
         cases e
        cases e
       cases e
      cases e
     cases e
    cases e
   cases e
  cases e
 ·split at e
  ·rename_i hw
   cases e;exact fun hφ=>⟨hφ.1,fun k=>AL.want hw hφ.2 k⟩
  cases e
 ·split at e
  ·rename_i hw
   split at e
   ·rename_i d hd
    replace e:=Qam e;obtain⟨e1,e⟩:=e
    rw [←hn]at e1
    split at e
    ·rename_i cl ho
     split at e
     ·rename_i f vs φ1 he
      split at e
      ·rename_i hs
       cases e
       refine fun hφ=>?_
       have h0:φ1:=by
        have hs':=hs
        unfold cmV at hs'
        replace hs':=(Qam hs').2
        repeat (split at hs'<;>first | (cases hs';exact hφ.1) | skip)
        all_goals cases hs'
       obtain⟨a,b⟩:=QAd (C:=C) ok ho he h0
       obtain⟨_,b'⟩:=QBi b hd e1 hN.g hs hφ
       exact⟨a,fun k=>AL.want hw b' k⟩
      cases e
     cases e
    cases e
   cases e
  cases e
 ·split at e
  ·rename_i hc
   split at e
   ·cases e;exact fun hφ=>⟨hφ.1,fun k=>AWp.condT hc hφ.2 k⟩
   cases e;exact fun hφ=>⟨hφ.1,fun k=>AWp.condF hc hφ.2 k⟩
  cases e
 ·split at e
  ·rename_i u hu;cases e;exact fun hφ=>⟨hφ.1,AK.weaken fun a w=>R.say ⟨u,hu,hφ.2⟩⟩
  cases e
 ·split at e
  ·rename_i u hu;cases e;exact fun hφ=>⟨hφ.1,AK.weaken fun a w=>R.sayO ⟨u,hu,hφ.2⟩⟩
  cases e
 ·cases e;exact fun hφ=>⟨hφ.1,AK.weaken fun a w hR=>hR.to hφ.2.1 hφ.2.2.1 hφ.2.2.2⟩
 ·split at e
  ·rename_i b k ht
   split at e
   ·rename_i z rs hb
    replace e:=Qam e;obtain⟨e1,e⟩:=e
    rw [Qfr]at e1
    cases e;exact fun hφ=>⟨hφ.1,AK.weaken fun a w hR=>hR.freeze e1 ht hb hφ.2.1 hφ.2.2⟩
   cases e
  cases e
 ·split at e
  ·rename_i ht
   split at e
   ·rename_i hb
    cases hbl:Nat.ble 617 _ with
    | true=>rw [hbl]at e;cases e
    | false=>rw [hbl]at e;cases e;exact fun hφ=>⟨hφ,AK.weaken fun a w hR=>hR.adopt (Qfe (by rw [hbl];rfl)) ht hb⟩
   cases e
  cases e
 ·split at e
  ·rename_i v hv;cases e;exact fun hφ=>⟨hφ,AK.weaken fun a w hR=>hR.denil hv⟩
  cases e
 ·split at e
  ·rename_i v hv;cases e;exact fun hφ=>⟨hφ,AK.weaken fun a w hR=>hR.denilO hv⟩
  cases e
 ·replace e:=Qam e;obtain⟨e1,e⟩:=e
  simp only [QE,Qfr,Option.isNone_iff_eq_none]at e1
  cases e;exact fun hφ=>⟨hφ,AK.weaken fun a w hR=>hR.ren _ _ e1.1.1 e1.1.2 e1.2⟩
 ·cases e;exact fun hφ=>⟨hφ,AK.weaken fun a w hR=>hR.kill _⟩
 ·split at e
  ·rename_i z rs hb
   replace e:=Qam e;obtain⟨e1,e⟩:=e
   rw [Qfr]at e1
   split at e
   ·rename_i σ1 φ1 h1
    split at e
    ·rename_i σ2 φ2 h2
     cases e;exact fun hφ=>⟨hφ.1,AK.weaken fun a w hR=>R.frz e1 hb h1 h2 hφ.2 hR⟩
    cases e
   cases e
  cases e
 ·split at e
  ·rename_i cs hcs
   split at e
   ·rename_i hi
    split at e
    ·rename_i hb
     cases hpb:Nat.beq _ _ with
     | true=>rw [hpb]at e;cases e
     | false=>
      rw [hpb]at e
      cases hbl:Nat.ble 617 _ with
      | true=>rw [hbl]at e;cases e
      | false=>rw [hbl]at e;cases e;exact fun hφ=>⟨hφ,AK.weaken fun a w hR=>R.adoptO hpb hcs hi (Qfe (by rw [hbl];rfl)) hb hR⟩
    cases e
   cases e
  cases e
 ·split at e
  ·rename_i hf
   split at e
   ·rename_i hp
    replace e:=Qam e;obtain⟨e1,e⟩:=e
    cases e;exact fun hφ=>⟨hφ,AK.weaken fun a w hR=>hR.to (QCs hf) (QCt hp) e1⟩
   cases e
  cases e
 cases e
theorem Qzw (ok:Qdw P T)(hN:QeY P C n):∀(k:Nat) {pt:Pt} {ks:List Fr} {σ:St} {φ:Prop} {c:Cfg},plain P C T n k pt ks σ φ=some c→QAb P C Q pt ks σ φ c:=by
 have hn:=hN.n
 intro k
 induction k with
 | zero=>intro pt ks σ φ c e;cases e;exact fun hφ=>⟨hφ,id⟩
 | succ k ih=>
  intro pt ks σ φ c e
  unfold plain at e
  split at e
  ·rename_i h;cases h
  ·rename_i k' ops o l _ _ _ h
   cases h
   split at e
   ·rename_i hw
    split at e
    ·rename_i hs
     exact fun hφ=>let ⟨a,b⟩:=ih e hφ;let ⟨a',b'⟩:=QtE ok hN hs a;⟨a',fun k=>AL.want hw b' (b k)⟩
    cases e
   ·rename_i hw
    split at e
    ·rename_i d hd
     replace e:=Qam e;obtain⟨e1,e⟩:=e
     rw [←hn]at e1
     exact fun hφ=>let ⟨a,b⟩:=ih e hφ;⟨a,fun k=>AL.pass hw hd e1 (b k)⟩
    rename_i hd
    exact fun hφ=>let ⟨a,b⟩:=ih e hφ;⟨a,fun k=>AL.pass0 hw hd (b k)⟩
   cases e
  rename_i h _
  cases h
  split at e
  ·rename_i hc
   exact fun hφ=>let ⟨a,b⟩:=ih e hφ;⟨a,fun k=>QBf hc (b k)⟩
  cases e
theorem QCu (ok:Qdw P T)(hN:QeY P C n):∀(ds:List Dir) {pt:Pt} {ks:List Fr} {σ:St} {φ:Prop} {c:Cfg},go P C T n ds pt ks σ φ=some c→QAb P C Q pt ks σ φ c:=by
 have hn:=hN.n
 intro ds
 induction ds with
 | nil=>intro pt ks σ φ c e;cases e;exact fun hφ=>⟨hφ,id⟩
 | cons d ds ih=>
  intro pt ks σ φ c e
  unfold go at e
  split at e
  ·rename_i h;cases h
  ·rename_i h
   cases h
   split at e
   ·rename_i hp
    exact fun hφ=>let ⟨a,b⟩:=ih e hφ;let ⟨a',b'⟩:=Qzw ok hN _ hp a;⟨a',fun k=>b' (b k)⟩
   cases e
  rename_i h
  cases h
  split at e
  ·rename_i hp
   exact fun hφ=>let ⟨a,b⟩:=ih e hφ;let ⟨a',b'⟩:=QAg ok hN hp a;⟨a',fun k=>b' (b k)⟩
  cases e
theorem AK.go (ok:Qdw P T)(hN:QeY P C n)(ds:List Dir){pt pt':Pt}{ks ks':List Fr}{σ σ':St}{φ:Prop}(e:Vm.go P C T n ds pt ks σ True=some ⟨pt',ks',σ',φ⟩)(hφ:φ)(k:AK P C Q pt' ks' σ'):AK P C Q pt ks σ:=
 (QCu ok hN ds e hφ).2 k
end
end Go.Vm
namespace Go.Vm
open Go Go.RowKit
theorem QT {α:Type}{l:List α}{f:α→List V}{j:Int}{x:α}(h:idx l j=some x):0≤j∧(l.map f)[j.toNat]? = some (f x):=⟨(QdK h).1,QbX (QdK h).2⟩
theorem Qda {α:Type}{l:List α}{j:Int}{x:α}{n:Nat}(h:idx l j=some x)(hn:l.length=n):0≤j∧j<(n:Int):=by subst hn;exact⟨(QdK h).1,QES h⟩
theorem Qro {a b:Bool}(h:(a&&b)=true):a=true:=(QE _ _▸h).1
theorem Qmt {a b:Bool}(h:(a&&b)=true):b=true:=(QE _ _▸h).2
theorem QtG {a b c:Bool}(h:(a&&b&&c)=true):a=true:=Qro (Qro h)
theorem QtH {a b c:Bool}(h:(a&&b&&c)=true):b=true:=Qmt (Qro h)
theorem QtI {a b c:Bool}(h:(a&&b&&c)=true):c=true:=Qmt h
theorem Bnd.none_ {σ:St}{n m:Nat}(h:n=m):Bnd σ n .none m:=h▸Bnd.no
theorem QD3 {α:Type}{l:List α}{h d:Nat}(hl:h≤l.length):V.own d h=V.own d (l.take h).length:=by rw [Qfs,Qql hl]
theorem QbP {α β:Type}{us:List α}{y:List β}{n:Nat}(h:decide (n+y.length≤4294967296)=true)(e:us.length=y.length):decide (n+us.length≤4294967296)=true:=by rw [e];exact h
theorem QcN {α β:Type}{us:List α}{l y:List β}(e:us.length=y.length):l.length+us.length=(l++y).length:=by rw [e];simp
theorem QbQ {rs:List (List V)}{n:Nat}(h:rs.length=n):n≤rs.length∧rs.take n=rs:=by subst h;exact⟨QbT _,QnD⟩
def ltI (a b:Int):Bool:=decide (a<b)
def ltS (a b:ByteArray):Bool:=decide (a.data.toList.map UInt8.toNat<b.data.toList.map UInt8.toNat)
section
variable {P:Program}{C:Ctx}{T:Tab}{Q:Exit→St→Prop}{n:Nat}{ops:Array Oper}{base:St}
theorem QbH.denil {o:Oper}{σ:St}{d:Nat}{v:V}{ob:Option Ob}{ms:List (Option Nat)}(h:QbH P C ops o σ (σ.addF ⟨d,v,ob⟩)):QbH P C ops o σ (σ.addF ⟨d,v.denil ms,ob⟩):=by
 intro a w hR K Q hK
 refine h a w hR K Q fun a' w' ⟨φ,hr⟩=>hK a' w' ⟨φ,?_⟩
 cases ob with
 | none=>exact RR.putDenil (σ:=σ) hr
 | some ob=>exact RR.putDenil (σ:=σ.set d ob) hr
theorem Qjl.app {fr:List (Nat×V)}:∀{l m:List (Nat×V)},Qjl fr l→Qjl fr m→Qjl fr (l++m):=by
 intro l
 induction l with
 | nil=>intro m _ h;exact h
 | cons p l ih=>intro m h h';exact⟨h.1,ih h.2 h'⟩
theorem Qhe.app {hp:List (Nat×Ob)}:∀{l m:List (Nat×Ob)},Qhe hp l→Qhe hp m→Qhe hp (l++m):=by
 intro l
 induction l with
 | nil=>intro m _ h;exact h
 | cons p l ih=>intro m h h';exact⟨h.1,ih h.2 h'⟩
theorem Qc.walk {f:FuncId}{fn:Func}{c:Code}{args:List V}{hs:List (Nat×Ob)}{post:V→List (Nat×Ob)→Prop}(n:Nat)(hf:P.funcs[f]? = some fn)(hb:fn.body=some c)(hn:fn.ntmps=n)
  (hle:(Nat.ble args.length n&&Nat.ble n 617)=true) (h:∀C:Ctx,QeY P C n→AK P C (Qyz P fn.results.toList post) (.c c) [] ⟨Qq3 0 args,hs⟩):Qc P f args hs post:=by
 rw [QE]at hle
 exact Qc.enter hf hb hn hle.1 hle.2 fun C h1 _=>h C h1
theorem Qc.walkR {f:FuncId}{fn:Func}{c:Code}{args:List V}{hs:List (Nat×Ob)}{post:V→List (Nat×Ob)→Prop}(n:Nat)(hf:P.funcs[f]? = some fn)(hb:fn.body=some c)(hn:fn.ntmps=n)
  (hle:(Nat.ble args.length n&&Nat.ble n 617)=true) (h:∀C:Ctx,QeY P C n→C.rnd=none→AK P C (Qyz P fn.results.toList post) (.c c) [] ⟨Qq3 0 args,hs⟩):Qc P f args hs post:=by
 rw [QE]at hle
 exact Qc.enter hf hb hn hle.1 hle.2 h
theorem gives {r:V}{outs hs:List (Nat×Ob)}(h:Qhe hs outs):Gives r outs r hs:=⟨rfl,fun _ _ e=>h.look _ _ e⟩
end
theorem Qrp {α:Type}{f:α→List V}{l:List α}{n:Nat}(h:n=l.length):n≤(l.map f).length∧(l.map f).take n=l.map f:=by
 subst h;exact⟨by simp,QdH (by simp)⟩
end Go.Vm
namespace Go.Vm
open Go Go.RowKit
section
variable {τ ρ π:Type}
def Qdg (body:τ→π→Option (τ⊕ρ)):τ→List π→Option (τ⊕ρ)
 | s,[]=>some (.inl s)
 | s,p::l=>(body s p).bind fun o=>Sum.elim (fun s'=>Qdg body s' l) (fun r=>some (.inr r)) o
open Classical in
noncomputable def QiR (body:τ→π→Option (τ⊕ρ))(s:τ):List π→Option (τ⊕ρ)
 | []=>some (.inl s)
 | [p]=>Qdg body s [p]
 | l=>if ∀l':List π,l'.Perm l→Qdg body s l'=Qdg body s l then Qdg body s l else none
theorem Qkt {body:τ→π→Option (τ⊕ρ)}{s:τ}{l:List π}{o:τ⊕ρ}:QiR body s l=some o↔(∀l':List π,l'.Perm l→Qdg body s l'=Qdg body s l)∧Qdg body s l=some o:=by
 unfold QiR
 split
 ·exact⟨fun h=>⟨fun l' hl=>by rw [hl.eq_nil],h⟩,fun h=>h.2⟩
 ·exact⟨fun h=>⟨fun l' hl=>by rw [List.perm_singleton.1 hl],h⟩,fun h=>h.2⟩
 split
 ·rename_i h;exact Iff.intro (fun e=>⟨h,e⟩) (fun e=>e.2)
 rename_i h;exact Iff.intro (fun e=>(by cases e)) (fun e=>absurd e.1 h)
theorem Qq6 {body:τ→π→Option (τ⊕ρ)}:∀{l m:List π} {s:τ},Qdg body s (l++m)=(Qdg body s l).bind fun o=>Sum.elim (fun s'=>Qdg body s' m) (fun r=>some (.inr r)) o:=by
 intro l
 induction l with
 | nil=>intro m s;rfl
 | cons p l ih=>
  intro m s
  simp only [List.cons_append,Qdg]
  cases body s p with
  | none=>rfl
  | some o=>
   cases o with
   | inl s'=>exact ih
   | inr r=>rfl
end
def Qbn {π:Type}(L:List (MapEntry×π))(seen:Array Nat):List (MapEntry×π):=L.filter fun q=>!seen.contains q.1.born
theorem Qsn {π:Type}{L:List (MapEntry×π)}(hn:(L.map (·.1.born)).Nodup){seen:Array Nat}{q:MapEntry×π}(hq:q∈Qbn L seen):(Qbn L seen).Perm (q::Qbn L (seen.push q.1.born)):=by
 have key:∀(l:List (MapEntry×π)),(l.map (·.1.born)).Nodup→∀p:MapEntry×π→Bool,q∈l→p q=true→(l.filter p).Perm (q::l.filter fun e=>p e&&!(e.1.born==q.1.born)):=by
  intro l
  induction l with
  | nil=>intro _ p h;simp at h
  | cons y l ih=>
   intro hn p hx hp
   rw [QeA,Qft]at hn
   rcases QaP.1 hx with rfl | hx
   ·have h1:l.filter (fun e=>p e&&!(e.1.born==q.1.born))=l.filter p:=by
     apply List.filter_congr
     intro e he
     have:e.1.born≠q.1.born:=fun h=>hn.1 (by rw [←h];exact List.mem_map_of_mem (f:=fun q:MapEntry×π=>q.1.born) he)
     simp [this]
    simp [Qig,hp,h1]
   have hne:y.1.born≠q.1.born:=fun h=>hn.1 (by rw [h];exact List.mem_map_of_mem (f:=fun q:MapEntry×π=>q.1.born) hx)
   have h2:=ih hn.2 p hx hp
   by_cases hy:p y=true
   ·have e1:(y::l).filter p=y::l.filter p:=by simp [Qig,hy]
    have e2:((y::l).filter fun e=>p e&&!(e.1.born==q.1.born))=y::l.filter fun e=>p e&&!(e.1.born==q.1.born):=by simp [Qig,hy,hne]
    rw [e1,e2]
    exact(List.Perm.cons y h2).trans (List.Perm.swap _ _ _)
   have e1:(y::l).filter p=l.filter p:=by simp [Qig,hy]
   have e2:((y::l).filter fun e=>p e&&!(e.1.born==q.1.born))=l.filter fun e=>p e&&!(e.1.born==q.1.born):=by simp [Qig,hy]
   rw [e1,e2];exact h2
 have e2:Qbn L (seen.push q.1.born)=L.filter fun e=>(!seen.contains e.1.born)&&!(e.1.born==q.1.born):=by
  unfold Qbn
  apply List.filter_congr
  intro e _
  rw [Bool.eq_iff_iff]
  simp [Array.mem_push]
 rw [e2]
 unfold Qbn at hq ⊢
 rw [Qjk]at hq
 exact key L hn _ hq.1 hq.2
theorem QAh {α:Type}:∀{l m:List α},l.Nodup→(∀x∈l,x∈m)→m.length≤l.length→l.Perm m:=by
 classical
 intro l
 induction l with
 | nil=>intro m _ _ h;have:m=[]:=Qmj.1 (Nat.le_zero.1 h);subst this;exact .nil
 | cons x l ih=>
  intro m hn hs hl
  rw [Qft]at hn
  have hx:=hs x Qaz
  have hp:=List.perm_cons_erase hx
  refine(List.Perm.cons x (ih hn.2 (fun y hy=>?_) ?_)).trans hp.symm
  ·have hne:y≠x:=fun e=>hn.1 (e▸hy)
   exact(List.mem_erase_of_ne hne).2 (hs y (QaC _ hy))
  have:=hp.length_eq
  simp at this hl
  omega
section
variable {P:Program}{C:Ctx}{Q:Exit→St→Prop}{σ σ':St}{ks:List Fr}{o:Oper}
theorem AK.weakenE {ι:Type _}{f:ι→St}{pt:Pt}(h:∀a w,R C σ a w→∃i,R C (f i) a w)(k:∀i,AK P C Q pt ks (f i)):AK P C Q pt ks σ:=by
 cases pt with
 | c c=>exact fun a w hR=>let ⟨i,hi⟩:=h a w hR;k i a w hi
 | o ops l=>exact fun a w hR=>let ⟨i,hi⟩:=h a w hR;k i a w hi
 | x e=>exact fun a w hR=>let ⟨i,hi⟩:=h a w hR;k i a w hi
def QhG {κ α:Type}(e:κ→V)(f:α→V)(L:List (MapEntry×(κ×α))):List (MapEntry×(V×V)):=L.map fun q=>(q.1,(e q.2.1,f q.2.2))
theorem AK.openMap {κ α:Type}[DecidableEq κ]{K:TypeId}{e:κ→V}{val:κ→Value}{f:α→V}{lt:List (κ×α)}{b:Nat}{pt:Pt}(hk:Qdv P K e val)(hb:look σ.hp b=some (.map (QA e f lt)))
  (h:∀bm clock (L:List (MapEntry×(κ×α))),(L.map (·.1.born)).Nodup→(L.map Prod.snd).Perm lt→AK P C Q pt ks (σ.set b (.mapX bm clock (QhG e f L) (QA e f lt)))):AK P C Q pt ks σ:=by
 have key:∀a w,R C σ a w→∃i:{ i:Nat×Nat×List (MapEntry×(κ×α)) // (i.2.2.map (·.1.born)).Nodup∧(i.2.2.map Prod.snd).Perm lt },R C (σ.set b (.mapX i.1.1 i.1.2.1 (QhG e f i.1.2.2) (QA e f lt))) a w:=by
  intro a w ⟨φ,hr⟩
  rcases hr.heap b _ hb with⟨B,hB,hrep⟩|⟨_,z,h2⟩
  ·obtain⟨es,clock,h1,h2,h3,h4,h5,h6⟩:=hrep
   have hL:∀l:List MapEntry,(∀x∈l,x∈es.toList)→∃L:List (MapEntry×(κ×α)),L.map Prod.fst=l∧∀q∈L,q.2∈lt∧Dat (Imm C φ w) w q.1.key (e q.2.1)∧Dat (Imm C φ w) w q.1.val (f q.2.2):=by
    intro l
    induction l with
    | nil=>intro _;exact⟨[],rfl,fun q hq=>by simp at hq⟩
    | cons x l ih=>
     intro hx
     obtain⟨L,e1,e2⟩:=ih fun y hy=>hx y (QaC _ hy)
     obtain⟨p,hp,a1,a2⟩:=h5 x (hx x Qaz)
     obtain⟨q,hq,rfl⟩:=QaQ.1 hp
     exact⟨(x,q)::L,by rw [QeA,e1],fun y hy=>by
      rcases QaP.1 hy with rfl | hy
      ·exact⟨hq,a1,a2⟩
      exact e2 y hy⟩
   obtain⟨L,e1,e2⟩:=hL es.toList fun _ h=>h
   have hn:=(QoP hk.einj).1 h3
   have hborn:(L.map (·.1.born)).Nodup:=by
    have:L.map (·.1.born)=es.toList.map (·.born):=by rw [←e1,List.map_map];rfl
    rw [this];exact h2.2.1
   have hkeys:(L.map fun q=>q.2.1).Nodup:=by
    have h7:(L.map fun q=>q.1.key).Nodup:=by
     have:(L.map fun q=>q.1.key)=es.toList.map (·.key):=by rw [←e1,List.map_map];rfl
     rw [this];exact h2.2.2
    have h8:(L.map fun q=>q.1.key)=(L.map fun q=>q.2.1).map val:=by
     rw [List.map_map]
     apply List.map_congr_left
     intro q hq
     exact hk.inv _ _ _ _ (e2 q hq).2.1
    rw [h8]at h7
    exact(QoJ.1 h7).imp fun hab e'=>hab (by rw [e'])
   have hperm:(L.map Prod.snd).Perm lt:=by
    have hnd:(L.map Prod.snd).Nodup:=by
     have:(L.map fun q=>q.2.1)=(L.map Prod.snd).map Prod.fst:=by rw [List.map_map];rfl
     rw [this]at hkeys
     exact(QoJ.1 hkeys).imp fun hab e'=>hab (by rw [e'])
    have hsub:∀q∈L.map Prod.snd,q∈lt:=fun q hq=>by
     obtain⟨y,hy,rfl⟩:=QaQ.1 hq
     exact(e2 y hy).1
    have hlen:lt.length≤(L.map Prod.snd).length:=by
     have:(L.map Prod.fst).length=es.toList.length:=by rw [e1]
     simp [QA]at h4 this ⊢
     omega
    have hltnd:lt.Nodup:=(QoJ.1 hn).imp fun hab e'=>hab (by rw [e'])
    exact QAh hnd hsub hlen
   have hes:es=(L.map Prod.fst).toArray:=by rw [e1]
   have hfst:(QhG e f L).map Prod.fst=L.map Prod.fst:=by simp [QhG]
   refine⟨⟨(B.b,clock,L),hborn,hperm⟩,φ,?_⟩
   refine hr.say' hb (fun B' hB' _=>?_) (fun z e'=>by cases e')
   rw [hB]at hB';cases hB'
   refine⟨rfl,by rw [h1,hfst,hes],by rw [hfst,←hes];exact h2,h3,?_,fun q hq=>?_⟩
   ·have:(QhG e f L).map Prod.snd=QA e f (L.map Prod.snd):=by simp [QhG,QA]
    rw [this];exact hperm.map _
   obtain⟨q',hq',rfl⟩:=QaQ.1 hq
   exact(e2 q' hq').2
  cases h2
 exact AK.weakenE key fun i=>h _ _ _ i.2.1 i.2.2
theorem R.closeMap {b bm clock:Nat}{L:List (MapEntry×(V×V))}{l:List (V×V)}(hb:look σ.hp b=some (.mapX bm clock L l)){a:Act}{w:World}(h:R C σ a w):R C (σ.set b (.map l)) a w:=by
 obtain⟨φ,hr⟩:=h
 refine⟨φ,hr.say' hb (fun B hB hrep=>?_) (fun z e'=>by cases e')⟩
 obtain⟨h1,h2,h3,h4,h5,h6⟩:=hrep
 refine⟨(L.map Prod.fst).toArray,clock,h2,h3,h4,by have:=h5.length_eq;simpa using this,fun x hx=>?_,fun p hp=>?_⟩
 ·obtain⟨q,hq,rfl⟩:=QaQ.1 (by simpa using hx:x∈L.map Prod.fst)
  exact⟨q.2,h5.mem_iff.1 (List.mem_map_of_mem hq),(h6 q hq).1,(h6 q hq).2⟩
 obtain⟨q,hq,rfl⟩:=QaQ.1 (h5.mem_iff.2 hp)
 exact⟨q.1,by simpa using (⟨q.2.1,q.2.2,hq⟩:∃a b,(q.1,a,b)∈L),(h6 q hq).1,(h6 q hq).2⟩
theorem AK.closeMap {b bm clock:Nat}{L:List (MapEntry×(V×V))}{l:List (V×V)}{pt:Pt}(hb:look σ.hp b=some (.mapX bm clock L l))(k:AK P C Q pt ks (σ.set b (.map l))):AK P C Q pt ks σ:=AK.weaken (fun _ _ h=>R.closeMap hb h) k
theorem AK.grpMap {b z K:Nat}{κ α:Type}[DecidableEq κ]{e:κ→V}{f:α→List V}{val:κ→Value}{l:List (κ×List α)}{pt:Pt}(hk:Qdv P K e val)(hp:Nat.ble 615 b=false)(hb:look σ.hp b=some (.grp z (Qnc e f l) none))
  (k:AK P C Q pt ks (σ.set b (.map (QA e (fun x=>V.sl z (x.map f)) l)))):AK P C Q pt ks σ:=AK.weaken (fun _ _ h=>R.grpMapT hk hp h hb) k
theorem Stp.range {T d b bm clock K E:Nat}{x:Operand}{L:List (MapEntry×(V×V))}{l:List (V×V)}(ho:o.op=.range T x)(hd:o.dst=some d)(hn:Nat.ble (d+1) C.n=true)(hx:σ.opd x=some (.map b))(hb:look σ.hp b=some (.mapX bm clock L l))
  (hT:Qi7 P T=some (K,E)) (hf:look σ.hp d=none):Stp P C o σ ((σ.set d (.itr bm clock #[] none)).put d (.loc d 0 0)):=by
 refine Stp.val fun φ a w hr=>?_
 obtain⟨B,hB,hev⟩:=(hr.opd hx).map_inv
 obtain⟨rfl,h2,_⟩:=hr.block hB hb
 refine⟨.pointer (some ⟨w.heap.size,0,none⟩),w.alloc (.mapIter (some B.b) clock #[] clock),ext φ d ⟨w.heap.size,1,0,[],0⟩,?_,?_⟩
 ·simp only [execOp,ho,hev,Sem.run_bind,run_range_map w T K E B.b _ clock (Qff hT) h2,Result.andThen_ok,Sem.run_pure]
 rw [hd]
 refine(hr.alloc (cap:=1) (z:=0) hf (C.slot hn) (ob:=.itr B.b clock #[] none) (obj:=.mapIter (some B.b) clock #[] clock) ⟨heap_alloc_new w _,rfl,fun x h=>by cases h⟩).put (Qab hn) ?_
 exact .loc d 0 0 ⟨w.heap.size,1,0,[],0⟩ (QQ _ _ _)
theorem Stp.range0 {T d K E:Nat}{x:Operand}(ho:o.op=.range T x)(hd:o.dst=some d)(hn:Nat.ble (d+1) C.n=true)(hx:σ.opd x=some (.lit (.map none)))(hT:Qi7 P T=some (K,E))(hf:look σ.hp d=none):
  Stp P C o σ ((σ.set d .itr0).put d (.loc d 0 0)):=by
 refine Stp.val fun φ a w hr=>?_
 have hev:=(hr.opd hx).lit_inv
 refine⟨.pointer (some ⟨w.heap.size,0,none⟩),w.alloc (.mapIter none 0 #[] 0),ext φ d ⟨w.heap.size,1,0,[],0⟩,?_,?_⟩
 ·simp only [execOp,ho,hev,Sem.run_bind,run_range_nilMap w T K E (Qff hT),Result.andThen_ok,Sem.run_pure]
 rw [hd]
 refine(hr.alloc (cap:=1) (z:=0) hf (C.slot hn) (ob:=.itr0) (obj:=.mapIter none 0 #[] 0) ⟨#[],0,heap_alloc_new w _,rfl⟩).put (Qab hn) ?_
 exact .loc d 0 0 ⟨w.heap.size,1,0,[],0⟩ (QQ _ _ _)
theorem Stp.next0 {d b:Nat}{x:Operand}(ho:o.op=.next x false)(hd:o.dst=some d)(hn:Nat.ble (d+1) C.n=true)(hx:σ.opd x=some (.loc b 0 0))(hb:look σ.hp b=some .itr0):Stp P C o σ (σ.put d (.tup [.b false])):=by
 refine Stp.val fun φ a w hr=>?_
 obtain⟨B,hB,hev⟩:=(hr.opd hx).loc_inv
 obtain⟨s,c,h1,h0⟩:=hr.block hB hb
 refine⟨.tuple #[.bool false],w,φ,?_,?_⟩
 ·simp only [QlE,QnE,h0]at hev
  simp only [execOp,ho,hev,Sem.run_bind]
  have:(Instr.next (.pointer (some ⟨B.b,0,none⟩)) false o.type).run P w=.ok (.tuple #[.bool false]) w:=by
   simp only [Instr.next,getObj,Sem.run_bind,Sem.run,h1,Result.andThen]
   rfl
  rw [this];rfl
 rw [hd]
 refine hr.put (Qab hn) (.tup _ _ rfl fun j x v hx hv=>?_)
 cases j with
 | zero=>simp at hx hv;subst hx;subst hv;exact .dat (.b _)
 | succ j=>simp at hx
theorem Stp.entry {d b m bm clock:Nat}{x:Operand}{L:List (MapEntry×(V×V))}{l:List (V×V)}{seen:Array Nat}{q:MapEntry×(V×V)}(ho:o.op=.entry x)(hd:o.dst=some d)(hn:Nat.ble (d+1) C.n=true)(hx:σ.opd x=some (.loc b 0 0))
  (hb:look σ.hp b=some (.itr bm clock seen (some q.1))) (hm:look σ.hp m=some (.mapX bm clock L l)) (hq:q∈L):Stp P C o σ (σ.put d (.tup [q.2.1,q.2.2])):=by
 refine Stp.same hd hn fun φ a w hr=>?_
 obtain⟨B,hB,hev⟩:=(hr.opd hx).loc_inv
 obtain⟨h1,h0,h2⟩:=hr.block hB hb
 obtain⟨s0,rfl⟩:=h2 _ rfl
 rcases hr.heap m _ hm with⟨M,hM,g1,g2,g3,g4,g5,g6⟩|⟨_,z,e'⟩
 ·refine⟨.tuple #[q.1.key,q.1.val],?_,.tup _ _ rfl fun j x v hx hv=>?_⟩
  ·simp only [QlE,QnE,h0]at hev
   subst g1
   have he:=run_entry_at (P:=P) w B.b M.b clock s0 _ clock q.1 h1 g2 (by simpa using (⟨q.2.1,q.2.2,hq⟩:∃a b,(q.1,a,b)∈L)) g3.2.1
   simp only [execOp,ho,hev,Sem.run_bind,he,Result.andThen_ok,Sem.run_pure]
  cases j with
  | zero=>simp at hx hv;subst hx;subst hv;exact .dat (g6 q hq).1
  | succ j=>
   cases j with
   | zero=>simp at hx hv;subst hx;subst hv;exact .dat (g6 q hq).2
   | succ j=>simp at hx
 cases e'
theorem AK.next {d b m bm clock:Nat}{x:Operand}{ops:Array Oper}{rest:List Oper}{L:List (MapEntry×(V×V))}{l:List (V×V)}{seen:Array Nat}{cur:Option MapEntry}(hg:o.guard=none)(ho:o.op=.next x false)(hd:o.dst=some d)(hn:Nat.ble (d+1) C.n=true)
  (hx:σ.opd x=some (.loc b 0 0)) (hb:look σ.hp b=some (.itr bm clock seen cur)) (hm:look σ.hp m=some (.mapX bm clock L l)) (hbm:Nat.beq b m=false)
  (hdone:Qbn L seen=[]→AK P C Q (.o ops rest) ks (σ.put d (.tup [.b false])))
  (hpick:∀q∈Qbn L seen,AK P C Q (.o ops rest) ks ((σ.set b (.itr bm clock (seen.push q.1.born) (some q.1))).put d (.tup [.b true,.J,.J]))):AK P C Q (.o ops (o::rest)) ks σ:=by
 intro a w ⟨φ,hr⟩
 simp only [wpListIn,Region.wanted,hg,if_true]
 obtain⟨B,hB,hev⟩:=(hr.opd hx).loc_inv
 obtain⟨h1,h0,h2⟩:=hr.block hB hb
 simp only [QlE,QnE,h0]at hev
 rcases hr.heap m _ hm with⟨M,hM,g1,g2,g3,g4,g5,g6⟩|⟨_,z,e'⟩
 ·subst g1
  refine⟨fun _ _=>trivial,?_⟩
  rw [Oper.semAt_eq _ _ _ (by rw [ho];intro c hc;cases hc)]
  have hold:∀y∈(L.map Prod.fst).toArray.toList,y.born<clock:=g3.1
  rcases run_next_at (P:=P) w o.type B.b M.b clock clock seen _ clock h1 g2 hold (QbT _)with⟨k1,k2⟩|⟨e,k1,w1,k2,k3⟩
  ·simp only [execOp,ho,hev,Sem.run_bind,k2,Result.andThen_ok,Sem.run_pure]
   rw [Oper.uponIn_value]
   refine hdone ?_ _ _ ⟨φ,?_⟩
   ·have:(leftOf (L.map Prod.fst).toArray seen).toList=(Qbn L seen).map Prod.fst:=by
     simp only [leftOf,Array.toList_filter,Qbn,List.filter_map];rfl
    have h3:((Qbn L seen).map Prod.fst).length=0:=by rw [←this];simpa using k1
    simpa using h3
   rw [hd]
   refine hr.put (Qab hn) (.tup _ _ rfl fun j x v hx hv=>?_)
   cases j with
   | zero=>simp at hx hv;subst hx;subst hv;exact .dat (.b _)
   | succ j=>simp at hx
  simp only [execOp,ho,hev,Sem.run_bind,k3,Result.andThen_ok,Sem.run_pure]
  rw [Oper.uponIn_value]
  have hleft:(leftOf (L.map Prod.fst).toArray seen).toList=(Qbn L seen).map Prod.fst:=by
   simp only [leftOf,Array.toList_filter,Qbn,List.filter_map];rfl
  rw [hleft]at k1
  obtain⟨q,hq,rfl⟩:=QaQ.1 k1
  refine hpick q hq _ _ ?_
  have hr1:RR C φ σ a w1:=by
   rcases k2 with rfl | rfl
   ·exact hr
   exact hr.step rfl rfl rfl (QbT _) (fun _ _=>rfl)
  have hheap:w1.heap=w.heap:=by rcases k2 with rfl | rfl<;>rfl
  have hlt:=(hr1.lt b B B.b hB B.self).1
  have h4:RR C φ (σ.set b (.itr M.b clock (seen.push q.1.born) (some q.1))) a (Go.ChangeMaps.setBlock w1 B.b (.mapIter (some M.b) clock (seen.push q.1.born) clock)):=by
   refine hr1.write hB (by rfl) (by rfl) (by rfl) ?_ ?_ ?_
   ·simp [Go.ChangeMaps.setBlock]
   ·intro k hk
    simp only [Go.ChangeMaps.setBlock]
    exact Qej _ (fun e=>hk e)
   refine⟨?_,h0,fun x e=>?_⟩
   ·simp [Go.ChangeMaps.setBlock,Qq1,hlt]
   cases e;exact⟨seen,rfl⟩
  refine⟨φ,?_⟩
  rw [hd]
  refine h4.put (Qab hn) (.tup _ _ rfl fun j x v hx hv=>?_)
  cases j with
  | zero=>simp at hx hv;subst hx;subst hv;exact .dat (.b _)
  | succ j=>
   cases j with
   | zero=>simp at hx hv;subst hv;exact .dat (.J _)
   | succ j=>
    cases j with
    | zero=>simp at hx hv;subst hv;exact .dat (.J _)
    | succ j=>simp at hx
 cases e'
theorem QxT {κ α:Type}{e:κ→V}{f:α→V}{L:List (MapEntry×(κ×α))}{seen:Array Nat}:Qbn (QhG e f L) seen=QhG e f (Qbn L seen):=by
 simp only [Qbn,QhG,List.filter_map];rfl
theorem AK.nextT {d b m bm clock:Nat}{x:Operand}{ops:Array Oper}{rest:List Oper}{κ α:Type}{e:κ→V}{f:α→V}{L:List (MapEntry×(κ×α))}{l:List (V×V)}{seen:Array Nat}{cur:Option MapEntry}(hg:o.guard=none)(ho:o.op=.next x false)(hd:o.dst=some d)
  (hn:Nat.ble (d+1) C.n=true) (hx:σ.opd x=some (.loc b 0 0)) (hb:look σ.hp b=some (.itr bm clock seen cur)) (hm:look σ.hp m=some (.mapX bm clock (QhG e f L) l)) (hbm:Nat.beq b m=false)
  (hdone:Qbn L seen=[]→AK P C Q (.o ops rest) ks (σ.put d (.tup [.b false])))
  (hpick:∀x k v,(x,(k,v))∈Qbn L seen→AK P C Q (.o ops rest) ks ((σ.set b (.itr bm clock (seen.push x.born) (some x))).put d (.tup [.b true,.J,.J]))):AK P C Q (.o ops (o::rest)) ks σ:=by
 refine AK.next hg ho hd hn hx hb hm hbm (fun h=>hdone ?_) (fun q hq=>?_)
 ·rw [QxT]at h;simpa [QhG] using h
 rw [QxT]at hq
 obtain⟨q',hq',rfl⟩:=QaQ.1 hq
 exact hpick q'.1 q'.2.1 q'.2.2 hq'
theorem Stp.entryT {d b m bm clock:Nat}{x:Operand}{κ α:Type}{e:κ→V}{f:α→V}{L:List (MapEntry×(κ×α))}{l:List (V×V)}{seen:Array Nat}{y:MapEntry}{k:κ}{v:α}(ho:o.op=.entry x)(hd:o.dst=some d)(hn:Nat.ble (d+1) C.n=true)(hx:σ.opd x=some (.loc b 0 0))
  {s0:Array Nat} (hq:(y,(k,v))∈Qbn L s0) (hb:look σ.hp b=some (.itr bm clock seen (some y))) (hm:look σ.hp m=some (.mapX bm clock (QhG e f L) l)):Stp P C o σ (σ.put d (.tup [e k,f v])):=
 Stp.entry (q:=(y,(e k,f v))) ho hd hn hx hb hm (QaQ.2 ⟨(y,(k,v)),(Qjk.1 hq).1,rfl⟩)
theorem AK.loopOnce {c:Code}(h:AK P C Q (.c c) (.cut (fun _=>False)::ks) σ):AK P C Q (.c (.loop c)) ks σ:=by
 intro a w hR
 refine wpIn_loop_rounds 1 ?_
 rw [roundsIn_succ]
 refine wpIn_mono (h a w hR) ?_
 rintro e a' w' ⟨σ',h1,h2⟩
 cases e<;>first | exact h1.elim | exact⟨σ',h1,h2⟩
def QFt {τ ρ π:Type}(body:τ→π→Option (τ⊕ρ))(L:List (MapEntry×π))(E:τ→Array Nat→St→Prop)(Post:ρ→Exit→St→Prop)(PD:τ→Exit→St→Prop)(s:τ)(seen:Array Nat):Exit→St→Prop:=fun e σ'=>
 (Qbn L seen=[]∧e≠.normal∧PD s e σ')∨∃q∈Qbn L seen,(∃s',body s q.2=some (.inl s')∧e=.normal∧E s' (seen.push q.1.born) σ')∨(∃r,body s q.2=some (.inr r)∧e≠.normal∧Post r e σ')
theorem AK.range {τ ρ π:Type}{body:τ→π→Option (τ⊕ρ)}{c:Code}{lt:List π}{L:List (MapEntry×π)}(E:τ→Array Nat→St→Prop)(Post:ρ→Exit→St→Prop)(PD:τ→Exit→St→Prop){s0:τ}{r:τ⊕ρ}(hn:(L.map (·.1.born)).Nodup)(hp:(L.map Prod.snd).Perm lt)
  (hr:QiR body s0 lt=some r) (h0:E s0 #[] σ)
  (round:∀s seen σ,E s seen σ→(∀q∈Qbn L seen,∃o,body s q.2=some o)→AK P C (QFt body L E Post PD s seen) (.c c) [] σ)
  (hQ:∀e σ',(Sum.elim (fun s=>PD s e σ') (fun q=>Post q e σ') r)→AK P C Q (.x e) ks σ'):AK P C Q (.c (.loop c)) ks σ:=by
 obtain⟨hperm,hrun⟩:=Qkt.1 hr
 have key:∀(k:Nat) (s:τ) (seen:Array Nat),(Qbn L seen).length=k→(∃dn,(dn++(Qbn L seen).map Prod.snd).Perm lt∧Qdg body s0 dn=some (.inl s))→∀σ a w,E s seen σ→R C σ a w→
   Code.roundsIn C.F 0 P c (up C fun e σ'=>Sum.elim (fun s=>PD s e σ') (fun q=>Post q e σ') r) (k+1) a w:=by
  intro k
  induction k with
  | zero=>
   rintro s seen hk ⟨dn,hd1,hd2⟩ σ a w hE hR
   have hnil:=Qmj.1 hk
   rw [roundsIn_succ]
   refine wpIn_mono (round s seen σ hE (fun q hq=>by rw [hnil]at hq;cases hq) a w hR) ?_
   rintro e a' w' ⟨σ',hq,hR'⟩
   rcases hq with⟨_,h2,h3⟩|⟨q,hq,_⟩
   ·rw [hnil]at hd1
    have:Qdg body s0 dn=some r:=by rw [←hrun];exact hperm dn (by simpa using hd1)
    rw [this]at hd2;cases hd2
    cases e<;>first | exact absurd rfl h2 | exact⟨σ',h3,hR'⟩
   rw [hnil]at hq;cases hq
  | succ k ih=>
   rintro s seen hk ⟨dn,hd1,hd2⟩ σ a w hE hR
   rw [roundsIn_succ]
   have hall:∀q∈Qbn L seen,∃o,body s q.2=some o∧∃rest,(dn++q.2::rest).Perm lt∧rest=(Qbn L (seen.push q.1.born)).map Prod.snd:=fun q hq=>by
    have h1:=(Qsn hn hq).map Prod.snd
    have h2:(dn++q.2::(Qbn L (seen.push q.1.born)).map Prod.snd).Perm lt:=((List.Perm.append_left dn h1).symm).trans hd1
    have h3:Qdg body s0 (dn++q.2::(Qbn L (seen.push q.1.born)).map Prod.snd)=some r:=by rw [←hrun];exact hperm _ h2
    rw [Qq6,hd2]at h3
    simp only [Ql,Sum.elim_inl,Qdg]at h3
    cases hb:body s q.2 with
    | none=>rw [hb]at h3;cases h3
    | some o=>exact⟨o,rfl,_,h2,rfl⟩
   refine wpIn_mono (round s seen σ hE (fun q hq=>let ⟨o,h,_⟩:=hall q hq;⟨o,h⟩) a w hR) ?_
   rintro e a' w' ⟨σ',hq,hR'⟩
   rcases hq with⟨h1,_,_⟩|⟨q,hq,⟨s',h1,rfl,h3⟩|⟨r',h1,h2,h3⟩⟩
   ·rw [h1]at hk;cases hk
   ·obtain⟨_,_,rest,h5,h6⟩:=hall q hq
    refine ih s' (seen.push q.1.born) ?_ ⟨dn++[q.2],?_,?_⟩ σ' a' w' h3 hR'
    ·have:=(Qsn hn hq).length_eq;simp at this;omega
    ·rw [Qdu,List.singleton_append,←h6];exact h5
    rw [Qq6,hd2];simp only [Ql,Sum.elim_inl,Qdg,h1]
   obtain⟨_,_,rest,h5,h6⟩:=hall q hq
   have h7:Qdg body s0 (dn++q.2::rest)=some r:=by rw [←hrun];exact hperm _ h5
   rw [Qq6,hd2]at h7
   simp only [Ql,Sum.elim_inl,Qdg,h1,Sum.elim_inr]at h7
   cases h7
   cases e<;>first | exact absurd rfl h2 | exact⟨σ',h3,hR'⟩
 intro a w hR
 have hL:Qbn L #[]=L:=by simp [Qbn]
 refine wpIn_mono (wpIn_loop_rounds _ (key _ s0 #[] rfl ⟨[],by rw [hL];simpa using hp,rfl⟩ σ a w h0 hR)) ?_
 rintro e a' w' ⟨σ',h1,h2⟩
 exact hQ e σ' h1 a' w' h2
end
end Go.Vm
