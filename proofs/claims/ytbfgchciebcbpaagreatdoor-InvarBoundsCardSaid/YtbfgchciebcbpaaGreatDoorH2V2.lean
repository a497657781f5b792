/- A part of the proof; what it holds is told at each theorem. -/
import Derived.Test.YtbfgchciebcbpaaGreatDoorH2V1
set_option linter.unusedVariables false
set_option linter.unusedSimpArgs false
set_option linter.unusedSectionVars false
set_option linter.deprecated false
namespace Go.Vm
open Go Go.RowKit
section
variable {P:Program}{C:Ctx}{σ:St}{o:Oper}
theorem QbW.fn {f:FuncId}{ags:Array Operand}{ts:Array TypeId}{vs:List V}(ho:o.op=.call { callee:=.value (.func f),args:=ags,argTypes:=ts })(he:QrH P f=true)(ha:σ.opsV ags.toList=some vs):
  QbW P C o σ f vs:=by
 intro φ a w hr
 obtain⟨h1,h2⟩:=hr.opsV _ _ ha
 refine⟨ags.toList.map a.eval,?_,by simpa using h1,fun j x v hx hv=>?_⟩
 ·have e2:ags.map a.eval=(ags.toList.map a.eval).toArray:=by apply Array.ext';simp
  simp only [execOp,ho,resolve,Sem.run_bind,show a.eval (.func f)=.func (.func f) #[] #[]from rfl,Deferred.ofValue,Sem.run_pure,Result.andThen_ok,invoke,Array.empty_append,Array.append_empty,e2]
  exact Qib (P:=P) (w:=w) (f:=f) (args:=(ags.toList.map a.eval).toArray) he
 simp only [Qan,Qaq]at hx
 obtain⟨y,hy,rfl⟩:=hx
 exact h2 j y v hy hv
theorem QbW.clo {f:FuncId}{x:Operand}{ags:Array Operand}{ts:Array TypeId}{vs fs cs:List V}(ho:o.op=.call { callee:=.value x,args:=ags,argTypes:=ts })(hx:σ.opd x=some (.clo (.func f) fs cs))
  (he:QrH P f=true) (ha:σ.opsV ags.toList=some vs):QbW P C o σ f (fs++(vs++cs)):=by
 intro φ a w hr
 obtain⟨h1,h2⟩:=hr.opsV _ _ ha
 obtain⟨xs,ys,hev,e1,e2,e3,e4⟩:=(hr.opd hx).clo_inv
 have h1':ags.size=vs.length:=by simpa using h1
 refine⟨xs.toList++(ags.toList.map a.eval++ys.toList),?_,by simp;omega,fun j y v hy hv=>?_⟩
 ·have e5:(xs++ags.map a.eval)++ys=(xs.toList++(ags.toList.map a.eval++ys.toList)).toArray:=by apply Array.ext';simp
  simp only [execOp,ho,resolve,Sem.run_bind,hev,Deferred.ofValue,Sem.run_pure,Result.andThen_ok,invoke,e5]
  exact Qib (P:=P) (w:=w) (f:=f) (args:=_) he
 by_cases c1:j<fs.length
 ·rw [QbR (by simpa using (by omega:j<xs.size))]at hy
  rw [QbR c1]at hv
  exact e3 j y v (by simpa using hy) hv
 rw [Qcm (by simp;omega)]at hy
 rw [Qcm (by omega)]at hv
 simp only [Array.length_toList]at hy
 rw [e1]at hy
 by_cases c2:j-fs.length<vs.length
 ·rw [QbR (by simp;simp at h1;omega)]at hy
  rw [QbR c2]at hv
  simp only [Qan,Qaq]at hy
  obtain⟨z,hz,rfl⟩:=hy
  exact h2 _ z v hz hv
 have hl:(ags.toList.map a.eval).length=vs.length:=by simpa using h1
 rw [Qcm (by omega),hl]at hy
 rw [Qcm (by omega)]at hv
 exact e4 _ y v (by simpa using hy) hv
def Qnf (P:Program)(t:TypeId)(name:String):Option (FuncId×Bool):=match P.info? t with
 | some i=>match i.methods.find? (·.name==name)with
  | some m=>bif m.path.isEmpty then m.func else none
  | none=>none
 | none=>none
def Qzt (P:Program)(t:TypeId):Bool:=match P.underlying t with
 | some (.pointer _)=>true
 | _=>false
def Quh (P:Program)(t:TypeId):Bool:=match P.underlying t with
 | some (.pointer _)=>false
 | some _=>true
 | none=>false
theorem QsT {t:TypeId}{name:String}{f:FuncId}{p:Bool}{n:Nat}{v r:Value}{w:World}(h:Qnf P t name=some (f,p))
  (hr:(receiverAt t (.val v) p (some ((name.splitOn ".").getLastD name))).run P w=.ok r w):(method (n+1) t v name).run P w=.ok (f,r) w:=by
 unfold Qnf at h
 split at h
 ·rename_i i hi
  split at h
  ·rename_i m hm
   cases hp:m.path.isEmpty with
   | false=>rw [hp]at h;cases h
   | true=>
    rw [hp]at h
    simp only [cond_true]at h
    have hpl:m.path.toList=[]:=by simpa using hp
    simp only [method,typeInfo,Sem.run_bind,Sem.run_pure,run_program,Result.andThen_ok,hi,hm,hpl,follow,h,hp,if_true,hr]
  cases h
 cases h
theorem QxY {t:TypeId}{v:Value}{wr:Option String}{w:World}(h:Qzt P t=true):(receiverAt t (.val v) true wr).run P w=.ok v w:=by
 unfold Qzt at h
 split at h
 ·rename_i e he
  simp [receiverAt,run_underlying he,Place.get]
 cases h
theorem QxZ {t:TypeId}{v:Value}{wr:Option String}{w:World}(h:Quh P t=true):(receiverAt t (.val v) false wr).run P w=.ok v w:=by
 unfold Quh at h
 split at h
 ·cases h
 ·rename_i d hd he
  cases d<;>first | exact(hd _ rfl).elim | simp [receiverAt,run_underlying he,Place.get]
 cases h
def QwZ (P:Program)(t e:TypeId):Bool:=match P.underlying t with
 | some (.pointer e')=>Nat.beq e' e
 | _=>false
theorem Qw0 {t e:TypeId}{p:Addr}{m:String}{w:World}{y:Value}(h:QwZ P t e=true)(hl:(loadVar e p).run P w=.ok y w):(receiverAt t (.val (.pointer (some p))) false (some m)).run P w=.ok y w:=by
 unfold QwZ at h
 split at h
 ·rename_i e' he
  have:=QaM h
  subst this
  have hs:(Builtin.ssaWrapNilChk_ #[t] t #[.pointer (some p),strVal "",strVal m]).run P w=.ok (.pointer (some p)) w:=rfl
  simp [receiverAt,run_underlying he,Place.get,hs,asAddr,hl]
 cases h
theorem QbW.meth {f:FuncId}{x:Operand}{name:String}{ags:Array Operand}{ts:Array TypeId}{t:TypeId}{vs:List V}{u r:V}(ho:o.op=.call { callee:=.invoke x name,args:=ags,argTypes:=ts })
  (hx:σ.opd x=some (.ifc t u)) (hm:(Qnf P t name=some (f,true)∧Qzt P t=true)∨(Qnf P t name=some (f,false)∧Quh P t=true)) (he:QrH P f=true) (ha:σ.opsV ags.toList=some vs):
  QbW P C o σ f (u::vs):=by
 intro φ a w hr
 obtain⟨h1,h2⟩:=hr.opsV _ _ ha
 obtain⟨y,hev,hy⟩:=(hr.opd hx).ifc_inv
 refine⟨y::ags.toList.map a.eval,?_,by simpa using h1,fun j z v hz hv=>?_⟩
 ·have hmeth:(method (P.types.size+Made.depth) t y name).run P w=.ok (f,y) w:=by
   have hd:P.types.size+Made.depth=(P.types.size+(Made.depth-1))+1:=by have:Made.depth=(Made.depth-1)+1:=rfl;omega
   rw [hd]
   rcases hm with⟨h,hp⟩|⟨h,hp⟩
   ·exact QsT h (QxY hp)
   exact QsT h (QxZ hp)
  have e2:#[y]++ags.map a.eval=(y::ags.toList.map a.eval).toArray:=by apply Array.ext';simp
  have e3:(#[Value.iface t y]++ags.map a.eval)[0]? = some (.iface t y):=by rw [Array.getElem?_append_left (by simp)];rfl
  have e4:(#[Value.iface t y]++ags.map a.eval).extract 1 (#[Value.iface t y]++ags.map a.eval).size=ags.map a.eval:=by
   apply Array.ext';simp [QeV]
  simp only [execOp,ho,resolve,Sem.run_bind,hev,Sem.run_pure,Result.andThen_ok,invoke,e3,e4,callMethod,run_program,hmeth,e2]
  exact Qib (P:=P) (w:=w) (f:=f) (args:=_) he
 cases j with
 | zero=>simp at hz hv;subst hz;subst hv;exact hy
 | succ j=>
  simp only [Qve,Qan,Qaq]at hz hv
  obtain⟨y',hy',rfl⟩:=hz
  exact h2 j y' v hy' hv
theorem QbW.methV {f:FuncId}{x:Operand}{name:String}{ags:Array Operand}{ts:Array TypeId}{t e:TypeId}{vs cs:List V}{b off:Nat}{r:V}(ho:o.op=.call { callee:=.invoke x name,args:=ags,argTypes:=ts })
  (hx:σ.opd x=some (.ifc t (.loc b 0 off))) (hm:Qnf P t name=some (f,false)) (hp:QwZ P t e=true) (hg:Qhx P e=some false) (hb:look σ.hp b=some (.var cs)) (hr0:cs[off]? = some r) (he:QrH P f=true)
  (ha:σ.opsV ags.toList=some vs):QbW P C o σ f (r::vs):=by
 intro φ a w hr
 obtain⟨h1,h2⟩:=hr.opsV _ _ ha
 obtain⟨y,hev,hy⟩:=(hr.opd hx).ifc_inv
 obtain⟨B,hB,rfl⟩:=hy.loc_inv
 obtain⟨xs,E,e1,e2,e0,e3⟩:=hr.block hB hb
 have hlt:off<xs.size:=by rw [e2];exact(QQ.1 hr0).1
 have hload:(loadVar e ⟨B.b,B.off+(0*B.z+off),none⟩).run P w=.ok xs[off] w:=by
  have:=QlZ (P:=P) (T:=e) (w:=w) (p:=⟨B.b,B.off+(0*B.z+off),none⟩) (x:=xs[off]) hg (by simp [World.cell?,e1,hlt,e0])
  simpa only [Instr.loadAt,Instr.sureAddr,Sem.run_bind,Sem.run_pure,Result.andThen_ok] using this
 refine⟨xs[off]::ags.toList.map a.eval,?_,by simpa using h1,fun j z v hz hv=>?_⟩
 ·have hmeth:(method (P.types.size+Made.depth) t (.pointer (some ⟨B.b,B.off+(0*B.z+off),none⟩)) name).run P w=.ok (f,xs[off]) w:=by
   have hd:P.types.size+Made.depth=(P.types.size+(Made.depth-1))+1:=by have:Made.depth=(Made.depth-1)+1:=rfl;omega
   rw [hd]
   exact QsT hm (Qw0 hp hload)
  have e2:#[xs[off]]++ags.map a.eval=(xs[off]::ags.toList.map a.eval).toArray:=by apply Array.ext';simp
  have e3:(#[Value.iface t (.pointer (some ⟨B.b,B.off+(0*B.z+off),none⟩))]++ags.map a.eval)[0]? = some (.iface t (.pointer (some ⟨B.b,B.off+(0*B.z+off),none⟩))):=by rw [Array.getElem?_append_left (by simp)];rfl
  have e4:(#[Value.iface t (.pointer (some ⟨B.b,B.off+(0*B.z+off),none⟩))]++ags.map a.eval).extract 1 (#[Value.iface t (.pointer (some ⟨B.b,B.off+(0*B.z+off),none⟩))]++ags.map a.eval).size=ags.map a.eval:=by
   apply Array.ext';simp [QeV]
  simp only [execOp,ho,resolve,Sem.run_bind,hev,Sem.run_pure,Result.andThen_ok,invoke,e3,e4,callMethod,run_program,hmeth,e2]
  exact Qib (P:=P) (w:=w) (f:=f) (args:=_) he
 cases j with
 | zero=>simp at hz hv;subst hz;subst hv;exact e3 off _ _ (Qgc hlt) hr0
 | succ j=>
  simp only [Qve,Qan,Qaq]at hz hv
  obtain⟨y',hy',rfl⟩:=hz
  exact h2 j y' v hy' hv
def Gives (r:V)(outs:List (Nat×Ob))(v:V)(hs:List (Nat×Ob)):Prop:=v=r∧∀c ob,look outs c=some ob→look hs c=some ob
theorem Stp.callM {f:FuncId}{d:Nat}{g:Bool}{M N:List (Nat×Nat)}{dead:List Nat}{hsC outs hsN:List (Nat×Ob)}{vs us:List V}{r r':V}(hE:QbW P C o σ f vs)(hd:o.dst=some d)(hn:Nat.ble (d+1) C.n=true)(hpg:C.pg P)
  (hnm:Qdf σ M N dead outs=true) (hnd:(M.map Prod.fst).Nodup)
  (hv:Vws σ.hp g false (Qfy M) (fun a b=>look M b=some a) vs us) (hobs:QlN σ.hp g false (Qfy M) (fun a b=>look M b=some a) σ.hp M hsC)
  (hc:Qd P f us hsC (Gives r outs)) (hback:QlN [] false g [] (fun c b=>look N b=some c) outs N hsN) (hr':Vw [] false g [] (fun c b=>look N b=some c) r r'):
  Stp P C o σ ((σ.after dead hsN).put d r'):=by
 intro a w ⟨φ,hr⟩ next Q hnext
 have hN:=Names.of hnm hnd
 refine⟨fun _ _=>trivial,?_⟩
 obtain⟨vals,hex,h1,h2⟩:=hE φ a w hr
 rw [Qvj hex,Oper.uponIn_enter]
 refine⟨(fun h=>by cases h),Qr5 ((hc _ _ w _ (Ins.of_vals hr h1 h2 hN.injM hN.param hv hobs) ((hr.glob hpg).mono fun _ h=>.inl h)).mono ?_)⟩
 rintro e w' ⟨x,v,hs',φ',rfl,⟨rfl,hso⟩,hout⟩
 obtain⟨h3,h4⟩:=hr.after hN hout hso (fun c s h=>by
  obtain⟨ob',e1⟩:=hobs.get.2 c s h
  obtain⟨s',ob,e2,e3,_⟩:=hobs.get.1 c ob' e1
  rw [h]at e2;cases e2;exact⟨ob,e3⟩) hback
 refine hnext _ _ ⟨QlO φ M N dead φ',?_⟩
 rw [hd]
 exact h3.put (Qah hn) (h4 hr')
end
end Go.Vm
namespace Go.Vm
open Go Go.RowKit
section
variable {κ α β:Type}[DecidableEq κ]
def QR : List (κ×α)→κ→Option α
 | [],_=>none
 | (a,x)::r,k=>if a=k then some x else QR r k
def Qkq (lt:κ→κ→Bool):List (κ×α)→κ→α→List (κ×α)
 | [],k,v=>[(k,v)]
 | (a,x)::r,k,v=>if lt k a=true then(k,v)::(a,x)::r else(a,x)::Qkq lt r k v
def Qgg : List (κ×α)→κ→α→List (κ×α)
 | [],_,_=>[]
 | (a,x)::r,k,v=>if a=k then(k,v)::r else(a,x)::Qgg r k v
def QaR (lt:κ→κ→Bool)(l:List (κ×α))(k:κ)(v:α):List (κ×α):=match QR l k with
 | some _=>Qgg l k v
 | none=>Qkq lt l k v
theorem QsU : ∀{l:List (κ×α)} {k:κ} {v:α},QR l k=some v→(k,v)∈l:=by
 intro l
 induction l with
 | nil=>intro k v h;cases h
 | cons p l ih=>
  intro k v h
  obtain⟨a,x⟩:=p
  rw [QR]at h
  split at h
  ·rename_i e;subst e;cases h;exact Q5
  exact Qab _ (ih h)
theorem mget_of_mem : ∀{l:List (κ×α)} {k:κ} {v:α},(l.map Prod.fst).Nodup→(k,v)∈l→QR l k=some v:=by
 intro l
 induction l with
 | nil=>intro k v _ h;cases h
 | cons p l ih=>
  intro k v hn h
  obtain⟨a,x⟩:=p
  rw [QaZ,Qdo]at hn
  rw [QR]
  rcases Qaa.1 h with h | h
  ·cases h;simp
  have:a≠k:=fun e=>hn.1 (by rw [show(a,x).1=k from e];exact QG.2 ⟨(k,v),h,rfl⟩)
  rw [if_neg this];exact ih hn.2 h
theorem QBZ : ∀{l:List (κ×α)} {k:κ},QR l k=none→∀p∈l,p.1≠k:=by
 intro l
 induction l with
 | nil=>intro k _ p h;cases h
 | cons q l ih=>
  intro k h p hp
  obtain⟨a,x⟩:=q
  rw [QR]at h
  split at h
  ·cases h
  rename_i hne
  rcases Qaa.1 hp with e | hp
  ·subst e;exact hne
  exact ih h p hp
theorem mins_perm (lt:κ→κ→Bool):∀(l:List (κ×α)) (k:κ) (v:α),(Qkq lt l k v).Perm ((k,v)::l):=by
 intro l
 induction l with
 | nil=>intro k v;exact .refl _
 | cons p l ih=>
  intro k v
  obtain⟨a,x⟩:=p
  rw [Qkq]
  split
  ·exact .refl _
  exact((ih k v).cons (a,x)).trans (.swap _ _ _)
theorem QsV : ∀(l:List (κ×α)) (k:κ) (v:α),(Qgg l k v).map Prod.fst=l.map Prod.fst:=by
 intro l
 induction l with
 | nil=>intro k v;rfl
 | cons p l ih=>
  intro k v
  obtain⟨a,x⟩:=p
  rw [Qgg]
  split
  ·rename_i e;subst e;rfl
  rw [QaZ,QaZ,ih]
theorem QCU : ∀{l:List (κ×α)} {k:κ} {v:α},(l.map Prod.fst).Nodup→(∃x,(k,x)∈l)→∀p,p∈Qgg l k v↔p=(k,v)∨(p∈l∧p.1≠k):=by
 intro l
 induction l with
 | nil=>intro k v _ ⟨x,h⟩;cases h
 | cons q l ih=>
  intro k v hn ⟨x,hx⟩ p
  obtain⟨a,y⟩:=q
  rw [QaZ,Qdo]at hn
  rw [Qgg]
  split
  ·rename_i e
   subst e
   have hno:∀p∈l,p.1≠a:=fun p hp e=>hn.1 (QG.2 ⟨p,hp,e⟩)
   constructor
   ·intro h
    rcases Qaa.1 h with h | h
    ·exact .inl h
    exact .inr ⟨Qab _ h,hno p h⟩
   rintro (h | ⟨h,h'⟩)
   ·rw [h];exact Q5
   rcases Qaa.1 h with h | h
   ·subst h;exact absurd rfl h'
   exact Qab _ h
  rename_i hne
  have hx':(k,x)∈l:=by
   rcases Qaa.1 hx with h | h
   ·cases h;exact absurd rfl hne
   exact h
  have:=ih hn.2 ⟨x,hx'⟩ (v:=v) p
  rw [Qaa,this,Qaa]
  constructor
  ·rintro (h | h | h)
   ·subst h;exact .inr ⟨.inl rfl,hne⟩
   ·exact .inl h
   exact .inr ⟨.inr h.1,h.2⟩
  rintro (h | ⟨h | h,h'⟩)
  ·exact .inr (.inl h)
  ·exact .inl h
  exact .inr (.inr ⟨h,h'⟩)
theorem QA7 (lt:κ→κ→Bool){l:List (κ×α)}{k:κ}{v:α}(h:(l.map Prod.fst).Nodup):((QaR lt l k v).map Prod.fst).Nodup:=by
 unfold QaR
 split
 ·rw [QsV];exact h
 rename_i hn
 refine(((mins_perm lt l k v).map Prod.fst).nodup_iff).2 ?_
 rw [QaZ,Qdo]
 refine⟨fun hm=>?_,h⟩
 obtain⟨p,hp,e⟩:=QG.1 hm
 exact QBZ hn p hp e
end
def QB {κ α:Type}(e:κ→V)(f:α→V)(l:List (κ×α)):List (V×V):=l.map fun p=>(e p.1,f p.2)
structure QfL (P:Program) (K:TypeId) {κ:Type} (e:κ→V) (val:κ→Value):Prop where
 d:∃D,P.underlying K=some D∧∀k,MapKept.IsKey D (val k)
 inv:∀I w x k,Dat I w x (e k)→x=val k
 dat:∀I w k,Dat I w (val k) (e k)
 edat:∀k,(e k).dat=true
 inj:∀a b,val a=val b→a=b
 einj:∀a b,e a=e b→a=b
def QEv (P:Program)(K:TypeId)(kk:IntKind):Bool:=match P.underlying K with
 | some (.int k)=>decide (k=kk)
 | _=>false
theorem QfL.int {P:Program}{K:TypeId}{kk:IntKind}(h:QEv P K kk=true):QfL P K (V.i kk) (Value.int kk):=by
 unfold QEv at h
 split at h
 ·rename_i k hk
  have:=QV h
  subst this
  refine⟨⟨_,hk,fun _=>rfl⟩,fun I w x k h=>by cases h;rfl,fun I w k=>.i _ _,fun _=>rfl,fun a b h=>by cases h;rfl,fun a b h=>by cases h;rfl⟩
 cases h
theorem QfL.str {P:Program}{K:TypeId}(h:Quc P K=true):QfL P K V.s Value.string:=
 ⟨⟨_,Qwb h,fun _=>trivial⟩,fun I w x k h=>by cases h;rfl,fun I w k=>.s _,fun _=>rfl,fun a b h=>by cases h;rfl,fun a b h=>by cases h;rfl⟩
section
variable {P:Program}{K:TypeId}{κ α:Type}[DecidableEq κ]{e:κ→V}{val:κ→Value}{f:α→V}{I:Nat→Prop}{w:World}{B:Blk}{l:List (κ×α)}
theorem Qng (he:∀a b,e a=e b→a=b):((QB e f l).map Prod.fst).Nodup↔(l.map Prod.fst).Nodup:=by
 have:(QB e f l).map Prod.fst=(l.map Prod.fst).map e:=by simp [QB]
 rw [this]
 constructor
 ·intro h;exact(QqW.1 h).imp fun hab e'=>hab (by rw [e'])
 intro h;exact QqW.2 (h.imp fun hab e'=>hab (he _ _ e'))
theorem QdC.find (hk:QfL P K e val){D:TypeDesc}(hD:P.underlying K=some D)(h:QdC I w B (QB e f l))(k:κ):∃es clock,w.heap[B.b]? = some (.map es clock)∧MapKept.Stamped es clock∧(l.map Prod.fst).Nodup∧
  es.size=l.length∧MapKept.IsKey D (val k)∧
  ((QR l k=none∧Instr.findNow D (val k) es.toList 0=some none∧∀x∈es.toList,x.key≠val k)∨
   ∃j x v,QR l k=some v∧Instr.findNow D (val k) es.toList 0=some (some (j,x.val))∧es[j]? = some x∧x.key=val k∧Dat I w x.val (f v)):=by
 obtain⟨es,clock,h1,h2,h3,h4,h5,h6⟩:=h
 obtain⟨D',hD',hK⟩:=hk.d
 rw [hD]at hD';cases hD'
 have hn:=(Qng hk.einj).1 h3
 have hrow:∀x∈es.toList,∃a y,(a,y)∈l∧x.key=val a∧Dat I w x.val (f y):=fun x hx=>by
  obtain⟨p,hp,a1,a2⟩:=h5 x hx
  obtain⟨q,hq,rfl⟩:=QG.1 hp
  exact⟨q.1,q.2,hq,hk.inv _ _ _ _ a1,a2⟩
 have hks:∀x∈es.toList,MapKept.IsKey D x.key:=fun x hx=>by obtain⟨a,y,_,e1,_⟩:=hrow x hx;rw [e1];exact hK a
 refine⟨es,clock,h1,h2,hn,by rw [h4,QB,Qk0],hK k,?_⟩
 rcases MapKept.findNow_spec (hK k) es.toList 0 hks with⟨g1,g2⟩|⟨j,x,g1,g2,g3⟩
 ·refine .inl ⟨?_,g1,g2⟩
  cases hg:QR l k with
  | none=>rfl
  | some v=>
   obtain⟨x,hx,a1,_⟩:=h6 (e k,f v) (QG.2 ⟨(k,v),QsU hg,rfl⟩)
   exact absurd (hk.inv _ _ _ _ a1) (g2 x hx)
 obtain⟨a,y,hm,e1,e2⟩:=hrow x (QaL g2)
 have:a=k:=hk.inj _ _ (by rw [←e1,g3])
 subst this
 exact .inr ⟨j,x,y,mget_of_mem hn hm,by simpa using g1,by simpa using g2,g3,e2⟩
end
def QnW (P:Program)(T:TypeId):Option (TypeId×TypeId):=match P.underlying T with
 | some (.map k e)=>some (k,e)
 | _=>none
theorem Qkr {P:Program}{T k e:TypeId}(h:QnW P T=some (k,e)):P.underlying T=some (.map k e):=by
 unfold QnW at h
 split at h
 ·rename_i h';cases h;exact h'
 cases h
section
variable {P:Program}{C:Ctx}{σ:St}{o:Oper}
theorem Stp.makeMap {T d:Nat}(ho:o.op=.makeMap T none)(hd:o.dst=some d)(hn:Nat.ble (d+1) C.n=true)(hf:look σ.hp d=none):Stp P C o σ ((σ.set d (.map [])).put d (.map d)):=by
 refine Stp.val fun φ a w hr=>?_
 refine⟨.map (some w.heap.size),w.alloc (.map #[] 0),ext φ d ⟨w.heap.size,0,0,[],0⟩,?_,?_⟩
 ·simp [execOp,ho,Instr.makeMap]
 rw [hd]
 refine(hr.alloc (cap:=0) (z:=0) hf (C.slot hn) (ob:=.map []) (obj:=.map #[] 0) ⟨#[],0,heap_alloc_new w _,MapKept.stamped_empty 0,by simp,rfl,by simp,by simp⟩).put (Qah hn) ?_
 exact .map d ⟨w.heap.size,0,0,[],0⟩ (Q4 _ _ _)
def Qks (P:Program)(T:TypeId)(z:V):Prop:=∃i x,P.info? T=some i∧i.zero=some x∧∀I w,Dat I w x z
theorem Stp.lookup {T d b K E:Nat}{x y:Operand}{κ α:Type}[DecidableEq κ]{e:κ→V}{val:κ→Value}{f:α→V}{l:List (κ×α)}{k:κ}{z:α}{v:V}(ho:o.op=.lookup T x y false)(hd:o.dst=some d)
  (hn:Nat.ble (d+1) C.n=true) (hx:σ.opd x=some (.map b)) (hb:look σ.hp b=some (.map (QB e f l))) (hy:σ.opd y=some (e k)) (hT:QnW P T=some (K,E)) (hk:QfL P K e val) (hz:Qks P E (f z))
  (hv:f ((QR l k).getD z)=v):Stp P C o σ (σ.put d v):=by
 refine Stp.same hd hn fun φ a w hr=>?_
 subst hv
 obtain⟨B,hB,he⟩:=(hr.opd hx).map_inv
 have hyv:a.eval y=val k:=hk.inv _ _ _ _ ((hr.opd hy).toDat (hk.edat k))
 obtain⟨D,hD,_⟩:=hk.d
 obtain⟨es,clock,h1,h2,h3,h4,h5,h6⟩:=QdC.find hk hD (hr.block hB hb) k
 obtain⟨i,zx,hi,hzx,hzd⟩:=hz
 rcases h6 with⟨g1,g2,_⟩|⟨j,xx,v,g1,g2,g3,g4,g5⟩
 ·refine⟨zx,?_,by rw [g1];exact .dat (hzd _ _)⟩
  simp [execOp,ho,he,hyv,Instr.lookup,run_underlying (Qkr hT),MapKept.run_getObj_map h1,MapKept.run_checkKey hD h5,MapKept.run_findKey hD g2,zeroValue,typeInfo,hi,hzx]
 refine⟨xx.val,?_,by rw [g1];exact .dat g5⟩
 simp [execOp,ho,he,hyv,Instr.lookup,run_underlying (Qkr hT),MapKept.run_getObj_map h1,MapKept.run_checkKey hD h5,MapKept.run_findKey hD g2]
theorem QeD {w:World}{r k:Nat}(o:Obj)(h:k≠r):(w.heap.setIfInBounds r o)[k]? = w.heap[k]? := by
 rw [QrF,if_neg (Ne.symm h)]
theorem Stp.mapUpdateI {T b K E:Nat}{x y u:Operand}{κ α:Type}[DecidableEq κ]{e:κ→V}{val:κ→Value}{f:α→V}{l:List (κ×α)}{k:κ}{v:α}(lt:κ→κ→Bool)(ho:o.op=.mapUpdate T x y u∨o.op=.insert T x y u)(hd:o.dst=none)
  (hx:σ.opd x=some (.map b)) (hb:look σ.hp b=some (.map (QB e f l))) (hy:σ.opd y=some (e k)) (hu:σ.opd u=some (f v)) (hT:QnW P T=some (K,E)) (hk:QfL P K e val) (hv:(f v).dat=true):
  Stp P C o σ (σ.set b (.map (QB e f (QaR lt l k v)))):=by
 refine Stp.skp fun φ a w hr=>?_
 obtain⟨B,hB,he⟩:=(hr.opd hx).map_inv
 have hyv:a.eval y=val k:=hk.inv _ _ _ _ ((hr.opd hy).toDat (hk.edat k))
 have huv:=(hr.opd hu).toDat hv
 obtain⟨D,hD,_⟩:=hk.d
 have hrep:=hr.block hB hb
 obtain⟨es,clock,h1,h2,h3,h4,h5,h6⟩:=QdC.find hk hD hrep k
 obtain⟨es',clock',h1',_,_,_,r5,r6⟩:=hrep
 rw [h1]at h1';cases h1'
 have hlt:B.b<w.heap.size:=(hr.lt b B _ hB B.self).1
 have write:∀(es2:Array MapEntry) (clock2:Nat) (l2:List (κ×α)),MapKept.Stamped es2 clock2→(l2.map Prod.fst).Nodup→es2.size=l2.length→
   (∀x∈es2.toList,∃p∈l2,x.key=val p.1∧Dat (Imm C φ w) w x.val (f p.2))→(∀p∈l2,∃x∈es2.toList,x.key=val p.1∧Dat (Imm C φ w) w x.val (f p.2))→
   RR C φ (σ.set b (.map (QB e f l2))) a { w with heap:=w.heap.setIfInBounds B.b (.map es2 clock2) }:=by
  intro es2 clock2 l2 a1 a2 a3 a4 a5
  have hI:∀k,Imm C φ w k→Imm C φ { w with heap:=w.heap.setIfInBounds B.b (.map es2 clock2) } k∧(w.heap.setIfInBounds B.b (.map es2 clock2))[k]? = w.heap[k]? := fun k hk'=>
   ⟨⟨by simpa using hk'.1,hk'.2⟩,QeD _ fun e=>hk'.2.2 b B hB (.inl e)⟩
  refine hr.write hB rfl rfl rfl (by simp) (fun k hne=>QeD _ hne) ⟨es2,clock2,by simp [hlt],a1,(Qng hk.einj).2 a2,by rw [a3,QB,Qk0],fun x hx=>?_,fun p hp=>?_⟩
  ·obtain⟨p,hp,e1,e2⟩:=a4 x hx
   exact⟨_,QG.2 ⟨p,hp,rfl⟩,by rw [e1];exact hk.dat _ _ _,e2.mono hI⟩
  obtain⟨q,hq,rfl⟩:=QG.1 hp
  obtain⟨x,hx,e1,e2⟩:=a5 q hq
  exact⟨x,hx,by rw [e1];exact hk.dat _ _ _,e2.mono hI⟩
 have old1:∀x∈es.toList,∃p∈l,x.key=val p.1∧Dat (Imm C φ w) w x.val (f p.2):=fun x hx=>by
  obtain⟨p,hp,a1,a2⟩:=r5 x hx
  obtain⟨q,hq,rfl⟩:=QG.1 hp
  exact⟨q,hq,hk.inv _ _ _ _ a1,a2⟩
 have old2:∀p∈l,∃x∈es.toList,x.key=val p.1∧Dat (Imm C φ w) w x.val (f p.2):=fun p hp=>by
  obtain⟨x,hx,a1,a2⟩:=r6 _ (QG.2 ⟨p,hp,rfl⟩)
  exact⟨x,hx,hk.inv _ _ _ _ a1,a2⟩
 rcases h6 with⟨g1,g2,g3⟩|⟨j,xx,v0,g1,g2,g3,g4,g5⟩
 ·refine⟨{ w with heap:=w.heap.setIfInBounds B.b (.map (es.push { key:=val k,val:=a.eval u,born:=clock }) (clock+1)) },φ,?_,?_⟩
  ·rcases ho with ho | ho<;>simp [execOp,ho,he,hyv,Instr.mapUpdate,run_underlying (Qkr hT),MapKept.run_getObj_map h1,MapKept.run_checkKey hD h5,MapKept.run_findKey hD g2,MapKept.run_setObj_map _ h1]
  rw [hd]
  have hms:QaR lt l k v=Qkq lt l k v:=by unfold QaR;rw [g1]
  have hmem:∀p,p∈Qkq lt l k v↔p=(k,v)∨p∈l:=fun p=>by rw [(mins_perm lt l k v).mem_iff,Qaa]
  rw [hms]
  refine write _ _ _ (MapKept.stamped_push h2 g3) (by rw [←hms];exact QA7 lt h3) (by rw [(mins_perm lt l k v).length_eq];simp [h4]) (fun x hx=>?_) (fun p hp=>?_)
  ·simp only [Array.toList_push,Qco,Qk2]at hx
   rcases hx with hx | rfl
   ·obtain⟨p,hp,e1,e2⟩:=old1 x hx;exact⟨p,(hmem p).2 (.inr hp),e1,e2⟩
   exact⟨(k,v),(hmem _).2 (.inl rfl),rfl,huv⟩
  rcases(hmem p).1 hp with rfl | hp
  ·exact⟨{ key:=val k,val:=a.eval u,born:=clock },by simp,rfl,huv⟩
  obtain⟨x,hx,e1,e2⟩:=old2 p hp;exact⟨x,by simp only [Array.toList_push,Qco];exact .inl hx,e1,e2⟩
 refine⟨{ w with heap:=w.heap.setIfInBounds B.b (.map (es.modify j fun x=>{ x with key:=val k,val:=a.eval u }) clock) },φ,?_,?_⟩
 ·rcases ho with ho | ho<;>simp [execOp,ho,he,hyv,Instr.mapUpdate,run_underlying (Qkr hT),MapKept.run_getObj_map h1,MapKept.run_checkKey hD h5,MapKept.run_findKey hD g2,MapKept.run_setObj_map _ h1,g3,g4,MapKept.run_keyThatStays h5]
 rw [hd]
 have hms:QaR lt l k v=Qgg l k v:=by unfold QaR;rw [g1]
 have hmem:=QCU h3 ⟨v0,QsU g1⟩ (v:=v)
 have hlen:(Qgg l k v).length=l.length:=by have:=congrArg List.length (QsV l k v);simpa using this
 have hjlt:j<es.size:=(Qhw.1 g3).1
 have hmod:∀i:Nat,(es.modify j fun x=>{ x with key:=val k,val:=a.eval u })[i]? = if i=j then some { xx with key:=val k,val:=a.eval u }else es[i]? := fun i=>by
  rw [QxU]
  by_cases hij:j=i
  ·subst hij;simp [g3]
  rw [if_neg hij,if_neg (Ne.symm hij)]
 have hkeyj:∀i x,es[i]? = some x→x.key=val k→i=j:=fun i x hx hxk=>by
  have hnd:=h2.2.2
  have i1:(es.toList.map (·.key))[i]? = some (val k):=by simp [Qan,hx,hxk]
  have i2:(es.toList.map (·.key))[j]? = some (val k):=by simp [Qan,g3,g4]
  exact(List.getElem?_inj (by simpa using (Qhw.1 hx).1) hnd).1 (i1.trans i2.symm)
 rw [hms]
 refine write _ _ _ (MapKept.stamped_modify h2 _ _ (fun _ _=>rfl) fun x _ hx=>by rw [g3]at hx;cases hx;exact g4.symm) (by rw [QsV];exact h3) (by rw [Array.size_modify,h4,hlen]) (fun x hx=>?_) (fun p hp=>?_)
 ·obtain⟨i,hi⟩:=Qpo.1 hx
  rw [QoN,hmod]at hi
  split at hi
  ·cases hi;exact⟨(k,v),(hmem _).2 (.inl rfl),rfl,huv⟩
  rename_i hne
  obtain⟨p,hp,e1,e2⟩:=old1 x (by rw [Qpo];exact⟨i,by simpa using hi⟩)
  exact⟨p,(hmem p).2 (.inr ⟨hp,fun e=>hne (hkeyj i x hi (by rw [e1,e]))⟩),e1,e2⟩
 rcases(hmem p).1 hp with rfl | ⟨hp,hne⟩
 ·exact⟨_,Qpo.2 ⟨j,by rw [QoN,hmod,if_pos rfl]⟩,rfl,huv⟩
 obtain⟨x,hx,e1,e2⟩:=old2 p hp
 obtain⟨i,hi⟩:=Qpo.1 hx
 refine⟨x,Qpo.2 ⟨i,?_⟩,e1,e2⟩
 have hij:i≠j:=fun e=>by
  subst e
  rw [QoN,g3]at hi;cases hi
  exact hne (hk.inj _ _ (by rw [←e1,g4]))
 rw [QoN,hmod,if_neg hij,←QoN];exact hi
theorem Stp.mapUpdate {T b K E:Nat}{x y u:Operand}{κ α:Type}[DecidableEq κ]{e:κ→V}{val:κ→Value}{f:α→V}{l:List (κ×α)}{k:κ}{v:α}(lt:κ→κ→Bool)(ho:o.op=.mapUpdate T x y u)(hd:o.dst=none)
  (hx:σ.opd x=some (.map b)) (hb:look σ.hp b=some (.map (QB e f l))) (hy:σ.opd y=some (e k)) (hu:σ.opd u=some (f v)) (hT:QnW P T=some (K,E)) (hk:QfL P K e val) (hv:(f v).dat=true):
  Stp P C o σ (σ.set b (.map (QB e f (QaR lt l k v)))):=
 Stp.mapUpdateI lt (.inl ho) hd hx hb hy hu hT hk hv
theorem Stp.insert {T b K E:Nat}{x y u:Operand}{κ α:Type}[DecidableEq κ]{e:κ→V}{val:κ→Value}{f:α→V}{l:List (κ×α)}{k:κ}{v:α}(lt:κ→κ→Bool)(ho:o.op=.insert T x y u)(hd:o.dst=none)
  (hx:σ.opd x=some (.map b)) (hb:look σ.hp b=some (.map (QB e f l))) (hy:σ.opd y=some (e k)) (hu:σ.opd u=some (f v)) (hT:QnW P T=some (K,E)) (hk:QfL P K e val) (hv:(f v).dat=true):
  Stp P C o σ (σ.set b (.map (QB e f (QaR lt l k v)))):=
 Stp.mapUpdateI lt (.inr ho) hd hx hb hy hu hT hk hv
end
end Go.Vm
namespace Go.Vm
open Go Go.RowKit
inductive Bnd (σ:St) (dflt:Nat):Option Operand→Nat→Prop where
 | no:Bnd σ dflt none dflt
 | val {x:Operand} {k:IntKind} {n:Int} {l:Nat}:σ.opd x=some (.i k n)→0≤n→n.toNat=l→Bnd σ dflt (some x) l
section
variable {P:Program}{C:Ctx}{σ:St}{o:Oper}{φ:Nat→Option Blk}{a:Act}{w:World}
theorem QjJ {k:IntKind}{i:Int}{y:Nat}{code:BoundsCode}(h0:0≤i)(h1:i.toNat≤y):(Instr.sliceBound (.int k i) y code).run P w=.ok i.toNat w:=by
 have:0≤i∧i≤(y:Int):=⟨h0,by omega⟩
 simp [Instr.sliceBound,asIntOf,this]
theorem Qk4 (hr:RR C φ σ a w){lo hi:Option Operand}{l h len cap:Nat}{b:Bool}(hl:Bnd σ 0 lo l)(hh:Bnd σ len hi h)(h1:l≤h)(h2:h≤cap):
  (Instr.sliceBounds b len cap (lo.map a.eval) (hi.map a.eval) none).run P w=.ok (l,h,cap) w:=by
 cases hl with
 | no=>
  cases hh with
  | no=>simp [Instr.sliceBounds]
  | val e1 e2 e3=>subst e3;simp [Instr.sliceBounds,(hr.opd e1).i_inv,QjJ e2 h2]
 | val e1 e2 e3=>
  subst e3
  cases hh with
  | no=>simp [Instr.sliceBounds,(hr.opd e1).i_inv,QjJ e2 h1]
  | val f1 f2 f3=>subst f3;simp [Instr.sliceBounds,(hr.opd e1).i_inv,QjJ e2 h1,(hr.opd f1).i_inv,QjJ f2 h2]
theorem Stp.sliceD {T d l h e z by_:Nat}{x:Operand}{lo hi:Option Operand}{rows us:List (List V)}(ho:o.op=.slice T x lo hi none)(hd:o.dst=some d)(hn:Nat.ble (d+1) C.n=true)(hx:σ.opd x=some (.sl z rows))
  (hT:Qaz P T=some (e,z,by_)) (hl:Bnd σ 0 lo l) (hh:Bnd σ rows.length hi h) (h1:l≤h) (h2:h≤rows.length) (hu:(rows.drop l).take (h-l)=us):Stp P C o σ (σ.put d (.sl z us)):=by
 refine Stp.same hd hn fun φ a w hr=>?_
 subst hu
 obtain⟨hu,i,hi',hiz,_⟩:=Qc0 hT
 rcases(hr.opd hx).sl_inv with⟨a0,cap,he,rfl⟩|⟨b,off,cap,he,hI,hcap,hok,c,hc,hdat⟩
 ·have h0:h=0:=by simpa using h2
  subst h0
  have l0:l=0:=by omega
  subst l0
  refine⟨.slice (if cap=0 then a0 else a0.map (·.add (0*i.size))) 0 cap,?_,.dat (.sl0 _ _ _)⟩
  have hh':Bnd σ 0 hi 0:=hh
  simp [execOp,ho,he,Instr.sliceAt,Instr.slice,run_underlying hu,Qk4 hr hl hh' h1 (by simp:0≤cap),sizeOf,typeInfo,hi']
 refine⟨.slice (if cap=l then some ⟨b,off,none⟩else some ((⟨b,off,none⟩:Addr).add (l*i.size))) (h-l) (cap-l),?_,.dat ?_⟩
 ·simp only [execOp,ho,he,Instr.sliceAt,Instr.slice,run_underlying hu,QpL,Qk4 hr hl hh h1 (by omega:h≤cap),sizeOf,typeInfo,hi',Sem.run_bind,Sem.run_pure,run_program,Result.andThen_ok,QdY,QpL]
 by_cases hlh:h-l=0
 ·rw [hlh];simp only [List.take_zero];exact .sl0 _ _ _
 have hcl:cap≠l:=by omega
 rw [if_neg hcl,hiz,Addr.add_lit]
 refine .sl b (off+l*z) (h-l) (cap-l) z _ (fun j=>c (l*z+j)) hI (by simp;omega) (by omega) (fun r hr'=>hok r (Qpp (QgS hr'))) (fun j hj=>?_) (fun k r hk j v hj=>?_)
 ·have hle:l*z+(h-l)*z≤rows.length*z:=by rw [←QcC];exact Qb3 _ (by omega)
  have:=hc (l*z+j) (by omega)
  rw [Qpq];exact this
 rw [Qcn]at hk
 split at hk
 ·rw [QhU]at hk
  have:=hdat (l+k) r hk j v hj
  rw [QcC]at this
  rw [←Qpq];exact this
 cases hk
theorem RR.shrink (h:RR C φ σ a w){b z:Nat}{rs:List (List V)}(hb:look σ.hp b=some (.arr z rs))(n:Nat):RR C φ (σ.set b (.arr z (rs.take n))) a w:=by
 refine⟨h.os,h.tape,h.output,h.size,h.kept,h.inj,fun o B hB=>?_,h.lt,h.new,h.stay.set hb,h.tmps,h.defers,h.frame,fun o ob hob=>?_⟩
 ·by_cases e:o=b
  ·subst e;exact⟨_,σ.look_set_same _ _⟩
  obtain⟨ob,h1⟩:=h.dom o B hB;exact⟨ob,by rw [σ.look_set_other _ (Ne.symm e)];exact h1⟩
 by_cases e:o=b
 ·subst e;rw [σ.look_set_same]at hob;cases hob
  rcases h.heap o _ hb with⟨B,hB,h1,h2,h3,cs,E,h4,h5,h6⟩|⟨h1,h2⟩
  ·refine .inl ⟨B,hB,h1,by simp;omega,fun r hr=>h3 r (QgS hr),cs,E,h4,h5,fun i r hi=>?_⟩
   rw [Qcn]at hi
   split at hi
   ·exact h6 i r hi
   cases hi
  exact .inr ⟨h1,by show rs.take n=[];rw [show rs=[]from h2,List.take_nil]⟩
 rw [σ.look_set_other _ (Ne.symm e)]at hob;exact h.heap o ob hob
theorem Stp.sliceO {T d b n h e z by_:Nat}{x:Operand}{lo hi:Option Operand}{rs us:List (List V)}(ho:o.op=.slice T x lo hi none)(hd:o.dst=some d)(hn:Nat.ble (d+1) C.n=true)(hx:σ.opd x=some (.own b n))
  (hb:look σ.hp b=some (.arr z rs)) (hT:Qaz P T=some (e,z,by_)) (hl:Bnd σ 0 lo 0) (hh:Bnd σ n hi h) (h2:h≤n) (hu:rs.take h=us):Stp P C o σ ((σ.set b (.arr z us)).put d (.own b h)):=by
 refine Stp.val fun φ a w hr=>?_
 subst hu
 obtain⟨hu,i,hi',hiz,_⟩:=Qc0 hT
 have hs:=hr.shrink hb h
 rcases(hr.opd hx).own_inv with⟨he,rfl⟩|⟨B,hB,hcap,he⟩
 ·have h0:h=0:=by omega
  subst h0
  refine⟨.slice none 0 0,w,φ,?_,by rw [hd];exact hs.put (Qah hn) (.own0 b)⟩
  simp [execOp,ho,he,Instr.sliceAt,Instr.slice,run_underlying hu,Qk4 hr hl hh (by omega) (by omega:0≤0),sizeOf,typeInfo,hi']
 refine⟨.slice (some ⟨B.b,B.off,none⟩) h B.cap,w,φ,?_,by rw [hd];exact hs.put (Qah hn) (.own b h B hB (by omega))⟩
 simp only [execOp,ho,he,Instr.sliceAt,Instr.slice,run_underlying hu,Qk4 hr hl hh (by omega) (by omega:h≤B.cap),sizeOf,typeInfo,hi',Sem.run_bind,Sem.run_pure,run_program,Result.andThen_ok,QdY,QpL,Qjc,Addr.add_lit,Qol,ite_self,Nat.sub_zero]
def Qvn (P:Program)(T:TypeId):Bool:=match P.underlying T with
 | some (.interface _)=>false
 | some _=>true
 | none=>false
theorem Qyu {T:TypeId}(h:Qvn P T=true):∃D,P.underlying T=some D∧∀m,D≠.interface m:=by
 unfold Qvn at h
 split at h
 ·cases h
 ·rename_i D hne he;exact⟨D,he,fun m e=>hne m (by rw [e])⟩
 cases h
theorem Stp.makeInterface {T d:Nat}{x:Operand}{v:V}(ho:o.op=.makeInterface T x)(hd:o.dst=some d)(hn:Nat.ble (d+1) C.n=true)(hx:σ.opd x=some v)(hT:Qvn P T=true):Stp P C o σ (σ.put d (.ifc T v)):=by
 refine Stp.same hd hn fun φ a w hr=>⟨.iface T (a.eval x),?_,.ifc T _ _ (hr.opd hx)⟩
 obtain⟨D,hD,hne⟩:=Qyu hT
 have:(Instr.makeInterface T (a.eval x)).run P w=.ok (.iface T (a.eval x)) w:=by
  simp only [Instr.makeInterface,Sem.run_bind,run_underlying hD,Result.andThen_ok]
  cases D<;>first | rfl | exact absurd rfl (hne _)
 simp only [execOp,ho,Sem.run_bind,this,Result.andThen_ok,Sem.run_pure]
theorem Stp.typeAssert {T S d:Nat}{x:Operand}{v:V}(ho:o.op=.typeAssert x S T false)(hd:o.dst=some d)(hn:Nat.ble (d+1) C.n=true)(hx:σ.opd x=some (.ifc T v))(hT:Qvn P T=true):Stp P C o σ (σ.put d v):=by
 refine Stp.same hd hn fun φ a w hr=>?_
 obtain⟨y,he,hy⟩:=(hr.opd hx).ifc_inv
 refine⟨y,?_,hy⟩
 obtain⟨D,hD,hne⟩:=Qyu hT
 have:(Instr.typeAssert (.iface T y) S T false).run P w=.ok y w:=by
  simp only [Instr.typeAssert,Sem.run_bind,run_underlying hD,Result.andThen_ok]
  cases D<;>first | simp | exact absurd rfl (hne _)
 simp only [execOp,ho,he,Sem.run_bind,this,Result.andThen_ok,Sem.run_pure]
theorem Stp.nilCheckL {d b i k:Nat}{x:Operand}(ho:o.op=.nilCheck x)(hd:o.dst=some d)(hn:Nat.ble (d+1) C.n=true)(hx:σ.opd x=some (.loc b i k)):Stp P C o σ (σ.put d (.loc b i k)):=by
 refine Stp.same hd hn fun φ a w hr=>⟨a.eval x,?_,hr.opd hx⟩
 obtain⟨B,hB,he⟩:=(hr.opd hx).loc_inv
 simp [execOp,ho,he]
theorem Stp.makeFunc {d:Nat}{fn:Fn}{first caps:Array Operand}{vs us:List V}(ho:o.op=.makeFunc fn first caps)(hd:o.dst=some d)(hn:Nat.ble (d+1) C.n=true)(h1:σ.opsV first.toList=some vs)(h2:σ.opsV caps.toList=some us):
  Stp P C o σ (σ.put d (.clo fn vs us)):=by
 refine Stp.same hd hn fun φ a w hr=>?_
 obtain⟨a1,a2⟩:=hr.opsV _ _ h1
 obtain⟨b1,b2⟩:=hr.opsV _ _ h2
 refine⟨.func fn (first.map a.eval) (caps.map a.eval),by simp [execOp,ho,Instr.makeFunc],.clo fn _ _ _ _ (by simpa using a1) (by simpa using b1) (fun j x v hx hv=>?_) fun j x v hx hv=>?_⟩
 ·rw [Array.getElem?_map,Qaq]at hx
  obtain⟨y,hy,rfl⟩:=hx
  exact a2 j y v (by simpa using hy) hv
 rw [Array.getElem?_map,Qaq]at hx
 obtain⟨y,hy,rfl⟩:=hx
 exact b2 j y v (by simpa using hy) hv
end
end Go.Vm
namespace Go.Vm
open Go Go.RowKit
def QsW {κ:Type}(e:κ→V)(l:List (κ×List (List V))):List (V×List (List V)):=l.map fun p=>(e p.1,p.2)
section
variable {P:Program}{K:TypeId}{κ:Type}[DecidableEq κ]{e:κ→V}{val:κ→Value}{I:Nat→Prop}{w:World}{B:Blk}{l:List (κ×List (List V))}{z:Nat}{out:Option V}
theorem Qw1 (he:∀a b,e a=e b→a=b):((QsW e l).map Prod.fst).Nodup↔(l.map Prod.fst).Nodup:=by
 have:(QsW e l).map Prod.fst=(l.map Prod.fst).map e:=by simp [QsW]
 rw [this]
 constructor
 ·intro h;exact(QqW.1 h).imp fun hab e'=>hab (by rw [e'])
 intro h;exact QqW.2 (h.imp fun hab e'=>hab (he _ _ e'))
def Qzu (I:Nat→Prop)(w:World)(z:Nat)(e:κ→V)(val:κ→Value)(out:Option V)(l:List (κ×List (List V)))(x:MapEntry)(E:Option Blk):Prop:=
 ∃q∈l,x.key=val q.1∧((∃F,E=some F∧F.more=[]∧out≠some (e q.1)∧Qbk I w F z q.2∧x.val=.slice (some ⟨F.b,F.off,none⟩) q.2.length F.cap)∨(E=none∧out=some (e q.1)))
theorem Qe6.find (hk:QfL P K e val){D:TypeDesc}(hD:P.underlying K=some D)(h:Qe6 I w B z (QsW e l) out)(k:κ):∃(es:Array MapEntry) (clock:Nat) (bs:List (Option Blk)),w.heap[B.b]? = some (.map es clock)∧MapKept.Stamped es clock∧(l.map Prod.fst).Nodup∧
  es.size=l.length∧bs.length=l.length∧B.more=bs.filterMap (Option.map Blk.b)∧(B.b::B.more).Nodup∧MapKept.IsKey D (val k)∧
  (∀(i:Nat) x E,es[i]? = some x→bs[i]? = some E→Qzu I w z e val out l x E)∧(∀q∈l,∃(i:Nat) (x:MapEntry),es[i]? = some x∧x.key=val q.1)∧
  ((QR l k=none∧Instr.findNow D (val k) es.toList 0=some none∧∀x∈es.toList,x.key≠val k)∨
   ∃j x E rs,QR l k=some rs∧Instr.findNow D (val k) es.toList 0=some (some (j,x.val))∧es[j]? = some x∧bs[j]? = some E∧x.key=val k∧∀i y,es[i]? = some y→y.key=val k→i=j):=by
 obtain⟨es,clock,h1,h2,h3,h4,bs,h5,h6,h7,h8,h9⟩:=h
 obtain⟨D',hD',hK⟩:=hk.d
 rw [hD]at hD';cases hD'
 have hn:=(Qw1 hk.einj).1 h3
 have hl:(QsW e l).length=l.length:=by simp [QsW]
 have hrow:∀(i:Nat) x E,es[i]? = some x→bs[i]? = some E→Qzu I w z e val out l x E:=fun i x E hi hE=>by
  obtain⟨p,hp,a1,a2⟩:=h8 i x E hi hE
  obtain⟨q,hq,rfl⟩:=QG.1 hp
  exact⟨q,hq,hk.inv _ _ _ _ a1,a2⟩
 have hbs:∀i x,es[i]? = some x→∃E,bs[i]? = some E:=fun i x hi=>by
  have hlt:i<bs.length:=by rw [h5,←h4];exact(Qhw.1 hi).1
  exact⟨_,QD hlt⟩
 have hks:∀x∈es.toList,MapKept.IsKey D x.key:=fun x hx=>by
  obtain⟨i,hi⟩:=Qpo.1 hx
  rw [QoN]at hi
  obtain⟨E,hE⟩:=hbs i x hi
  obtain⟨q,_,e1,_⟩:=hrow i x E hi hE
  rw [e1];exact hK _
 refine⟨es,clock,bs,h1,h2,hn,by rw [h4,hl],by rw [h5,hl],h6,h7,hK k,hrow,fun q hq=>?_,?_⟩
 ·obtain⟨i,x,hi,a1⟩:=h9 _ (QG.2 ⟨q,hq,rfl⟩)
  exact⟨i,x,hi,hk.inv _ _ _ _ a1⟩
 rcases MapKept.findNow_spec (hK k) es.toList 0 hks with⟨g1,g2⟩|⟨j,x,g1,g2,g3⟩
 ·refine .inl ⟨?_,g1,g2⟩
  cases hg:QR l k with
  | none=>rfl
  | some rs=>
   obtain⟨i,x,hi,a1⟩:=h9 (e k,rs) (QG.2 ⟨(k,rs),QsU hg,rfl⟩)
   exact absurd (hk.inv _ _ _ _ a1) (g2 x (Qpo.2 ⟨i,by rw [QoN];exact hi⟩))
 have g2':es[j]? = some x:=by simpa using g2
 obtain⟨E,hE⟩:=hbs j x g2'
 obtain⟨⟨a,rs⟩,hm,e1,_⟩:=hrow j x E g2' hE
 have:a=k:=hk.inj _ _ (by rw [←e1,g3])
 subst this
 refine .inr ⟨j,x,E,rs,mget_of_mem hn hm,by simpa using g1,g2',hE,g3,fun i y hy hyk=>?_⟩
 have i1:(es.toList.map (·.key))[i]? = some (val a):=by simp [Qan,hy,hyk]
 have i2:(es.toList.map (·.key))[j]? = some (val a):=by simp [Qan,g2',g3]
 exact(List.getElem?_inj (by simpa using (Qhw.1 hy).1) h2.2.2).1 (i1.trans i2.symm)
theorem Qe6.of (hk:QfL P K e val){es:Array MapEntry}{clock:Nat}{bs:List (Option Blk)}(h1:w.heap[B.b]? = some (.map es clock))(h2:MapKept.Stamped es clock)(h3:(l.map Prod.fst).Nodup)(h4:es.size=l.length)
  (h5:bs.length=l.length) (h6:B.more=bs.filterMap (Option.map Blk.b)) (h7:(B.b::B.more).Nodup) (h8:∀(i:Nat) x E,es[i]? = some x→bs[i]? = some E→Qzu I w z e val out l x E)
  (h9:∀q∈l,∃(i:Nat) (x:MapEntry),es[i]? = some x∧x.key=val q.1):Qe6 I w B z (QsW e l) out:=by
 have hl:(QsW e l).length=l.length:=by simp [QsW]
 refine⟨es,clock,h1,h2,(Qw1 hk.einj).2 h3,by rw [h4,hl],bs,by rw [h5,hl],h6,h7,fun i x E hi hE=>?_,fun p hp=>?_⟩
 ·obtain⟨q,hq,a1,a2⟩:=h8 i x E hi hE
  exact⟨_,QG.2 ⟨q,hq,rfl⟩,by rw [a1];exact hk.dat _ _ _,a2⟩
 obtain⟨q,hq,rfl⟩:=QG.1 hp
 obtain⟨i,x,hi,a1⟩:=h9 q hq
 exact⟨i,x,hi,by rw [a1];exact hk.dat _ _ _⟩
end
section
variable {P:Program}{C:Ctx}{σ:St}{o:Oper}{φ:Nat→Option Blk}{a:Act}{w:World}{ops:Array Oper}{c:Code}{Q:Exit→St→Prop}
theorem RR.say' (h:RR C φ σ a w){b:Nat}{ob ob':Ob}(hb:look σ.hp b=some ob)(hs:∀B,φ b=some B→QbZ φ (Imm C φ w) w B ob→QbZ φ (Imm C φ w) w B ob')(hne:¬ob.Nil):RR C φ (σ.set b ob') a w:=by
 refine⟨h.os,h.tape,h.output,h.size,h.kept,h.inj,fun o B hB=>?_,h.lt,h.new,h.stay.set hb,h.tmps,h.defers,h.frame,fun o ob2 hob=>?_⟩
 ·by_cases e:o=b
  ·subst e;exact⟨_,σ.look_set_same _ _⟩
  obtain⟨ob,h1⟩:=h.dom o B hB;exact⟨ob,by rw [σ.look_set_other _ (Ne.symm e)];exact h1⟩
 by_cases e:o=b
 ·subst e;rw [σ.look_set_same]at hob;cases hob
  rcases h.heap o _ hb with⟨B,hB,hr⟩|⟨_,h2⟩
  ·exact .inl ⟨B,hB,hs B hB hr⟩
  exact absurd h2 hne
 rw [σ.look_set_other _ (Ne.symm e)]at hob;exact h.heap o ob2 hob
def QCV (P:Program)(T:TypeId):Bool:=match P.info? T with
 | some i=>match i.zero with
  | some (.slice none 0 0)=>true
  | _=>false
 | none=>false
theorem QCW {T:TypeId}(h:QCV P T=true):∃i,P.info? T=some i∧i.zero=some (.slice none 0 0):=by
 unfold QCV at h
 split at h
 ·rename_i i hi
  split at h
  ·rename_i hz;exact⟨i,hi,hz⟩
  cases h
 cases h
theorem Qks.sl {T:TypeId}{z:Nat}(h:QCV P T=true):Qks P T (.sl z []):=let ⟨i,h1,h2⟩:=QCW h;⟨i,_,h1,h2,fun _ _=>.sl0 _ _ _⟩
theorem Qks.one {T:TypeId}{v:Value}(hi:((P.info? T).bind (·.zero))=some v):Qks P T (Qg6 v):=by
 obtain⟨i,h1,h2⟩:=Qnd.1 hi
 exact⟨i,v,h1,h2,fun _ _=>Dat.const v⟩
end
section
variable {P:Program}{C:Ctx}{σ:St}{o:Oper}{a:Act}{w:World}
end
end Go.Vm
namespace Go.Vm
open Go Go.RowKit
theorem Qd.toData {P:Program}{f:FuncId}{us:List V}{z:Nat}{rows:List (List V)}(h:Qd P f us [] (Qzp z rows)):Qd P f us [] (fun v _=>v=.sl z rows):=by
 intro S φ w vals hi hG
 refine(h S φ w vals hi hG).mono ?_
 rintro e w' ⟨x,v,hs',φ',rfl,⟨o,rfl,hl⟩,ho⟩
 have hφ:∀o B,φ o≠some B:=fun o B hB=>by obtain⟨ob,h⟩:=(hi.dom o B hB).2.2;cases h
 have hA:∀k,Aft S φ' w w' k→Aft S (fun _=>none) w w' k:=fun k hk=>⟨hk.1,hk.2.1,fun _ _ h=>by cases h⟩
 refine⟨x,.sl z rows,[],fun _=>none,rfl,rfl,ho.os,ho.tape,ho.output,ho.size,ho.kept,fun _ _ _ _ _ h=>(by cases h),fun _ _ h=>(by cases h),fun _ _ _ h=>(by cases h),fun _ _ _ h=>(by cases h),⟨fun _ _ _ h=>(by cases h),fun _ _ _ _ h=>(by cases h)⟩,?_,fun _ _ h=>(by cases h)⟩
 rcases ho.heap o _ hl with⟨B,hB,hrep⟩|⟨hn,hz⟩
 ·rcases ho.rep.own_inv with⟨rfl,h0⟩|⟨B',hB',hcap,rfl⟩
  ·have:rows=[]:=QqV.1 h0
   subst this;exact .dat (.sl0 _ _ _)
  rw [hB]at hB';cases hB'
  obtain⟨rfl,hrl,hok,cs,E,h1,h2,h3⟩:=hrep
  refine .dat (.sl B.b B.off rows.length B.cap B.z rows (fun j=>cs.getD (B.off+j) undef) ⟨(ho.lt o B B.b hB B.self).1,fun hlt=>?_,fun _ _ h=>by cases h⟩ rfl hcap hok (fun j hj=>?_) (fun i r hi j v hj=>?_))
  ·obtain⟨o',B',h4,_⟩:=(ho.lt o B B.b hB B.self).2 hlt
   exact absurd h4 (hφ _ _)
  ·have hle2:rows.length*B.z≤B.cap*B.z:=Qb3 _ hcap
   have:B.off+j<cs.size:=by omega
   simp [World.cell?,h1,Array.getD,this]
  obtain⟨y,hy,hd⟩:=h3 i r hi j v hj
  have:cs.getD (B.off+(i*B.z+j)) undef=y:=by simp [QrE,hy]
  rw [this]
  exact hd.mono fun k hk=>⟨hA k hk,rfl⟩
 replace hz:rows=[]:=hz;subst hz
 rcases ho.rep.own_inv with⟨rfl,h0⟩|⟨B',hB',hcap,rfl⟩
 ·exact .dat (.sl0 _ _ _)
 rw [hn]at hB';cases hB'
structure Tab where
 ag:List (Nat×Bool)
 sz:List (Nat×Nat)
 fo:List (Nat×List Nat)
 sp:List (Nat×List (Nat×Nat))
 es:List (Nat×(Nat×Nat×Nat))
 ar:List (Nat×(Nat×Nat))
 zv:List (Nat×List V)
 sb:List Nat
 bo:List Nat
 cc:List Nat
 en:List Nat
def foB (P:Program)(t:Nat):List Nat→Nat→Bool
 | [],_=>true
 | off::r,i=>(match QmH P t i with | some k=>Nat.beq k off | none=>false)&&foB P t r (i+1)
def Tab.okB (P:Program)(T:Tab):Bool:=
 T.ag.all (fun p=>Qhx P p.1==some p.2)&&T.sz.all (fun p=>Qhg P p.1==some p.2)&&T.fo.all (fun p=>foB P p.1 p.2 0)&&T.sp.all (fun p=>QsN P p.1==some p.2) &&
 T.es.all (fun p=>Qaz P p.1==some p.2)&&T.ar.all (fun p=>Qq0 P p.1==some p.2)&&T.sb.all (Quc P)&&T.bo.all (QwW P)&&T.cc.all (Qvn P)&&T.en.all (QrH P)
structure QdO (P:Program) (T:Tab):Prop where
 ag:∀{t b},look T.ag t=some b→Qhx P t=some b
 sz:∀{t b},look T.sz t=some b→Qhg P t=some b
 fo:∀{t l},look T.fo t=some l→∀{i:Nat} {k:Nat},l[i]? = some k→QmH P t i=some k
 sp:∀{t b},look T.sp t=some b→QsN P t=some b
 es:∀{t b},look T.es t=some b→Qaz P t=some b
 ar:∀{t b},look T.ar t=some b→Qq0 P t=some b
 zv:∀{t b},look T.zv t=some b→Qar P t=some b
 sb:∀{t},Q8 T.sb t=true→Quc P t=true
 bo:∀{t},Q8 T.bo t=true→QwW P t=true
 cc:∀{t},Q8 T.cc t=true→Qvn P t=true
 en:∀{t},Q8 T.en t=true→QrH P t=true
theorem QDZ {P:Program}{t:Nat}:∀{l:List Nat} {j:Nat},foB P t l j=true→∀{i k:Nat},l[i]? = some k→QmH P t (j+i)=some k:=by
 intro l
 induction l with
 | nil=>intro j _ i k h;simp at h
 | cons off r ih=>
  intro j h i k hk
  rw [foB,Qz]at h
  cases i with
  | zero=>
   simp at hk;subst hk
   have:=h.1
   split at this
   ·rename_i k' hk';rw [Qol,hk',QaM this]
   cases this
  | succ i=>simp at hk;have:=ih h.2 hk;rwa [show j+(i+1)=j+1+i by omega]
theorem Tab.ok {P:Program}{T:Tab}(h:T.okB P=true)(hz:∀p∈T.zv,Qar P p.1=some p.2):QdO P T:=by
 simp only [Tab.okB,Qz,Qac,beq_iff_eq]at h
 obtain⟨⟨⟨⟨⟨⟨⟨⟨⟨h1,h2⟩,h3⟩,h4⟩,h5⟩,h6⟩,h7⟩,h8⟩,h9⟩,h10⟩:=h
 exact⟨fun e=>h1 _ (Qbo e),fun e=>h2 _ (Qbo e),fun e i k hk=>by have:=QDZ (h3 _ (Qbo e)) hk;rwa [Qnc]at this,fun e=>h4 _ (Qbo e),
  fun e=>h5 _ (Qbo e),fun e=>h6 _ (Qbo e),fun e=>hz _ (Qbo e),fun e=>h7 _ (Qkp.1 e),fun e=>h8 _ (Qkp.1 e),fun e=>h9 _ (Qkp.1 e),fun e=>h10 _ (Qkp.1 e)⟩
inductive Qgh where
 | d
 | n (z:Nat)
 | o (us:List (List V))
 | f (n:Nat)
inductive Qkt where
 | no
 | row (r:List V)
 | ix
 | rows (rs:List (List V))
 | ln (n:Nat)
 | num (r:Int)
 | bd (ms:List (Option Nat))
 | c (g:Bool) (ms:List Qgh) (r:V)
 | co (g:Bool) (ms:List Qgh) (z:Nat) (rows:List (List V)) (m:Nat)
 | cd (g:Bool) (ms:List Qgh) (z:Nat) (rows:List (List V)) (m:Nat)
 | any (v:V) (ob:Option Ob)
structure Rs where
 v:V
 ob:Option Ob
 φ:Option Prop
def Rs.holds (r:Rs):Prop:=match r.φ with
 | none=>True
 | some p=>p
def evs (f:Operand→Option V):List Operand→Option (List V)
 | []=>some []
 | x::r=>match f x with
  | some v=>match evs f r with
   | some vs=>some (v::vs)
   | none=>none
  | none=>none
def evp (f:Operand→Option V):List (Nat×Operand)→Option (List (Nat×V))
 | []=>some []
 | (i,x)::r=>match f x with
  | some v=>match evp f r with
   | some vs=>some ((i,v)::vs)
   | none=>none
  | none=>none
def QA8 (hp:Nat→Option Ob)(g:Bool)(m:Qgh)(v:V):Option (V×Option Prop):=match m with
 | .d=>bif v.datA then some (v,none)else none
 | .n z=>match v with
  | .lit (.slice none 0 0)=>some (.sl z [],none)
  | _=>none
 | .o us=>match v with
  | .own b n=>match hp b with
   | some (.arr z rs)=>bif g then some (.sl z us,some (n≤rs.length∧rs.take n=us))else none
   | _=>none
  | _=>none
 | .f _=>none
def QFY (φ:Option Prop)(p:Prop):Prop:=match φ with
 | none=>p
 | some q=>q∧p
def Qr6 (hp:Nat→Option Ob)(g:Bool):List Qgh→List V→Option (List V×(Prop→Prop))
 | [],[]=>some ([],id)
 | m::ms,v::vs=>match QA8 hp g m v with
  | some (u,φ)=>match Qr6 hp g ms vs with
   | some (us,k)=>some (u::us,fun p=>QFY φ (k p))
   | none=>none
  | none=>none
 | _,_=>none
def ikB : IntKind→IntKind→Bool
 | .i8,.i8 | .i16,.i16 | .i32,.i32 | .i64,.i64 | .u8,.u8 | .u16,.u16 | .u32,.u32 | .u64,.u64=>true
 | _,_=>false
theorem Qzv {a b:IntKind}(h:ikB a b=true):a=b:=by cases a<;>cases b<;>first | rfl | cases h
def QCX (T:Tab)(op:BinOp)(Tx:TypeId):V→V→Option Rs
 | .i k m,.i k' n=>bif ikB k k' then match op with
  | .quo=>some ⟨.i k (k.wrap (m.tdiv n)),none,some (n≠0)⟩
  | .rem=>some ⟨.i k (m.tmod n),none,some (n≠0)⟩
  | op=>match QA4 op k m n with
   | some v=>some ⟨v,none,none⟩
   | none=>none
  else none
 | .b m,.b n=>bif Q8 T.bo Tx then match op with
  | .eql=>some ⟨.b (m==n),none,none⟩
  | .neq=>some ⟨.b (m != n),none,none⟩
  | _=>none
  else none
 | .s m,.s n=>match op with
  | .eql=>some ⟨.b (QiF m n),none,none⟩
  | .neq=>some ⟨.b (!QiF m n),none,none⟩
  | _=>none
 | _,_=>none
def unV (op:UnOp):V→Option Rs
 | .b t=>match op with
  | .not=>some ⟨.b (!t),none,none⟩
  | _=>none
 | .i k m=>match op with
  | .neg=>some ⟨.i k (k.wrap (0-m)),none,none⟩
  | _=>none
 | _=>none
def Qui (T:Tab)(Tx:TypeId)(cs:List V)(off:Nat)(φ:Option Prop):Option Rs:=
 match look T.ag Tx with
 | some true=>match look T.sz Tx with
  | some n=>bif Nat.ble (off+n) cs.length then some ⟨.agg ((cs.drop off).take n),none,φ⟩else none
  | none=>none
 | some false=>match cs[off]? with
  | some v=>some ⟨v,none,φ⟩
  | none=>none
 | none=>none
def QA9 (T:Tab)(h:Qkt)(Tx:TypeId)(hp:Nat→Option Ob):V→Option Rs
 | .loc b i off=>match hp b with
  | some (.var cs)=>match i with
   | 0=>Qui T Tx cs off none
   | _=>none
  | some (.arr _ rs)=>match h with
   | .row r=>Qui T Tx r off (some (rs[i]? = some r))
   | _=>none
  | _=>none
 | .ro cs=>Qui T Tx cs 0 none
 | _=>none
def Qzw (T:Tab)(Tx:TypeId)(i:Nat):V→Option Rs
 | .loc b k off=>match look T.fo Tx with
  | some l=>match l[i]? with
   | some n=>some ⟨.loc b k (off+n),none,none⟩
   | none=>none
  | none=>none
 | .ro cs=>match look T.fo Tx with
  | some l=>match l[i]? with
   | some n=>some ⟨.ro (cs.drop n),none,none⟩
   | none=>none
  | none=>none
 | _=>none
def Qzx (T:Tab)(h:Qkt)(Tx:TypeId)(hp:Nat→Option Ob):V→V→Option Rs
 | .sl z rows,.i _ j=>match look T.es Tx with
  | some p=>match h with
   | .row r=>bif Nat.beq z p.2.1 then some ⟨.ro r,none,some (0≤j∧rows[j.toNat]? = some r)⟩else none
   | _=>none
  | none=>none
 | .own b n,.i _ j=>match look T.es Tx with
  | some p=>match hp b with
   | some (.arr z _)=>bif Nat.beq z p.2.1 then some ⟨.loc b j.toNat 0,none,some (0≤j∧j<(n:Int))⟩else none
   | _=>none
  | none=>none
 | .loc b i m,.i _ j=>match look T.ar Tx with
  | some p=>bif decide (0≤j)&&decide (j<(p.1:Int))then some ⟨.loc b i (m+j.toNat*p.2),none,none⟩else none
  | none=>none
 | .ro cs,.i _ j=>match look T.ar Tx with
  | some p=>bif decide (0≤j)&&decide (j<(p.1:Int))then some ⟨.ro (cs.drop (j.toNat*p.2)),none,none⟩else none
  | none=>none
 | _,_=>none
def QCY (T:Tab)(h:Qkt)(Tx:TypeId):V→Option Rs
 | .sl _ rows=>bif (look T.es Tx).isSome then match h with
  | .ln m=>some ⟨.i .i64 m,none,some (rows.length=m)⟩
  | _=>some ⟨.i .i64 rows.length,none,none⟩
  else none
 | .own _ n=>bif (look T.es Tx).isSome then some ⟨.i .i64 n,none,none⟩else none
 | .lit (.slice none 0 0)=>bif (look T.es Tx).isSome then some ⟨.i .i64 0,none,none⟩else none
 | .s s=>bif Q8 T.sb Tx then some ⟨.i .i64 s.size,none,none⟩else none
 | _=>none
def mkV (T:Tab)(h:Qkt)(Tx d:TypeId):V→V→Option Rs
 | .i _ l,.i _ c=>match look T.es Tx with
  | some p=>match look T.zv p.1 with
   | some zs=>match h with
    | .rows rs=>bif Nat.beq zs.length p.2.1&&!(Nat.beq p.2.1 0)&&zs.all V.one&&Nat.ble p.2.2 32768 then
     some ⟨.own d l.toNat,some (.arr p.2.1 rs),some ((decide (0≤l)&&decide (l≤c)&&decide (c≤4294967296))=true∧List.replicate l.toNat zs=rs)⟩else none
    | _=>none
   | none=>none
  | none=>none
 | _,_=>none
def mmV (mx:Bool):V→V→Option Rs
 | .i k m,.i k' n=>bif ikB k k' then bif mx then some ⟨.i k (Vm.max2 m n),none,none⟩else some ⟨.i k (Vm.min2 m n),none,none⟩else none
 | _,_=>none
def Qzf (P:Program)(T:Tab)(h:Qkt)(hp:Nat→Option Ob)(d fn:Nat)(vs:List V):Option Rs:=
 bif Q8 T.en fn then match h with
 | .c g ms r=>match Qr6 hp g ms vs with
  | some (us,k)=>bif (!g&&r.datA)||r.scaA then some ⟨r,none,some (k (Qd P fn us [] (Gives r [])))⟩else none
  | none=>none
 | .co g ms z rows m=>match Qr6 hp g ms vs with
  | some (us,k)=>some ⟨.own d m,some (.arr z rows),some (k (Qd P fn us [] (Gives (.own 600 m) [(600,.arr z rows)])∧rows.length=m∧(g=false∨∀r∈rows,∀v∈r,v.sca=true)))⟩
  | none=>none
 | .cd g ms z rows m=>match Qr6 hp g ms vs with
  | some (us,k)=>bif !g then some ⟨.sl z rows,none,some (k (Qd P fn us [] (Gives (.own 600 m) [(600,.arr z rows)])∧rows.length=m))⟩else none
  | none=>none
 | _=>none
 else none
def ev1 (P:Program)(C:Ctx)(T:Tab)(h:Qkt)(o:Oper)(d:Nat)(f:Operand→Option V)(hp:Nat→Option Ob):Option Rs:=
 match h with
 | .any v ob=>some ⟨v,ob,some (∀σ:St,(∀x u,f x=some u→σ.opd x=some u)→(∀b u,hp b=some u→look σ.hp b=some u)→(ob.isSome=true→look σ.hp d=none)→Stp P C o σ (σ.addF ⟨d,v,ob⟩))⟩
 | h=>match o.op with
  | .move x=>match f x with
   | some v=>some ⟨v,none,none⟩
   | none=>none
  | .assign x=>match f x with
   | some v=>some ⟨v,none,none⟩
   | none=>none
  | .pick c a b=>match f c with
   | some (.b true)=>match f a with
    | some v=>some ⟨v,none,none⟩
    | none=>none
   | some (.b false)=>match f b with
    | some v=>some ⟨v,none,none⟩
    | none=>none
   | _=>none
  | .binOp op Tx x y _=>match f x with
   | some v=>match f y with
    | some u=>QCX T op Tx v u
    | none=>none
   | none=>none
  | .unOp op _ x=>match f x with
   | some v=>unV op v
   | none=>none
  | .alloc Tx=>match look T.zv Tx with
   | some zs=>some ⟨.loc d 0 0,some (.var zs),none⟩
   | none=>none
  | .box _ x=>match f x with
   | some (.agg cs)=>some ⟨.loc d 0 0,some (.var cs),none⟩
   | some v=>bif v.one then some ⟨.loc d 0 0,some (.var [v]),none⟩else none
   | none=>none
  | .load Tx x=>match f x with
   | some v=>QA9 T h Tx hp v
   | none=>none
  | .fieldAddr Tx x i=>match f x with
   | some v=>Qzw T Tx i v
   | none=>none
  | .indexAddr Tx x y=>match f x with
   | some v=>match f y with
    | some u=>Qzx T h Tx hp v u
    | none=>none
   | none=>none
  | .build Tx parts=>match evp f parts.toList with
   | some qs=>match look T.zv Tx with
    | some zs=>bif qs.all (fun q=>q.2.isV)then match look T.sp Tx with
      | some pl=>match QfK (pl[·]?) zs qs with
       | some vs=>some ⟨.agg vs,none,none⟩
       | none=>none
      | none=>match look T.ar Tx with
       | some p=>match QfK (fun i=>some (i*p.2,p.2)) zs qs with
        | some vs=>some ⟨.agg vs,none,none⟩
        | none=>none
       | none=>none
     else none
    | none=>none
   | none=>none
  | .buildSlice Tx n parts=>match evp f parts.toList with
   | some qs=>match look T.es Tx with
    | some p=>match look T.zv p.1 with
     | some zs=>bif qs.all (fun q=>q.2.isV)&&Nat.beq zs.length p.2.1&&!(Nat.beq p.2.1 0)&&Nat.ble (n*p.2.1) 16777216 then
      match QfK (fun i=>some (i*p.2.1,p.2.1)) ((List.range (n*p.2.1)).map fun k=>zs.getD (k % p.2.1) .J) qs with
      | some vs=>match h with
       | .bd ms=>bif (QdZ ms vs).all V.one&&(QdZ ms vs).all V.dat then some ⟨.sl p.2.1 (Qjd p.2.1 n (QdZ ms vs)),none,none⟩else none
       | _=>bif vs.all V.one&&vs.all V.dat then some ⟨.own d n,some (.arr p.2.1 (Qjd p.2.1 n vs)),none⟩else none
      | none=>none
      else none
     | none=>none
    | none=>none
   | none=>none
  | .extract x i=>match f x with
   | some (.tup vs)=>match vs[i]? with
    | some v=>some ⟨v,none,none⟩
    | none=>none
   | _=>none
  | .nilCheck x=>match f x with
   | some (.loc b i k)=>some ⟨.loc b i k,none,none⟩
   | _=>none
  | .makeInterface Tx x=>match f x with
   | some v=>bif Q8 T.cc Tx then some ⟨.ifc Tx v,none,none⟩else none
   | none=>none
  | .typeAssert x _ Tx false=>match f x with
   | some (.ifc t v)=>bif Nat.beq t Tx&&Q8 T.cc Tx then some ⟨v,none,none⟩else none
   | _=>none
  | .makeFunc fn first caps=>match evs f first.toList with
   | some vs=>match evs f caps.toList with
    | some us=>some ⟨.clo fn vs us,none,none⟩
    | none=>none
   | none=>none
  | .index Tx x y=>match f x with
   | some (.s s)=>match f y with
    | some (.i _ j)=>match h with
     | .num r=>bif Q8 T.sb Tx then some ⟨.i .u8 r,none,some (sidx s j=some r)⟩else none
     | _=>none
    | _=>none
   | _=>none
  | .makeSlice Tx x y=>match f x with
   | some v=>match f y with
    | some u=>mkV T h Tx d v u
    | none=>none
   | none=>none
  | .makeMap _ none=>some ⟨.map d,some (.map []),none⟩
  | .call c=>match c.callee with
   | .builtin .max=>match c.args.toList with
    | [x,y]=>match f x with
     | some v=>match f y with
      | some u=>mmV true v u
      | none=>none
     | none=>none
    | _=>none
   | .builtin .min=>match c.args.toList with
    | [x,y]=>match f x with
     | some v=>match f y with
      | some u=>mmV false v u
      | none=>none
     | none=>none
    | _=>none
   | .builtin .len=>match c.args.toList with
    | [x]=>match c.argTypes.toList with
     | [Tx]=>match f x with
      | some v=>QCY T h Tx v
      | none=>none
     | _=>none
    | _=>none
   | .value x=>match f x with
    | some (.clo (.func fn) fs cs)=>match evs f c.args.toList with
     | some vs=>Qzf P T h hp d fn (fs++(vs++cs))
     | none=>none
    | _=>none
   | _=>none
  | _=>none
section
variable {P:Program}{C:Ctx}{T:Tab}{o:Oper}{d:Nat}{f:Operand→Option V}{hp:Nat→Option Ob}{σ:St}
theorem QeK (h1:∀x u,f x=some u→σ.opd x=some u):∀{l:List Operand} {vs:List V},evs f l=some vs→σ.opsV l=some vs:=by
 intro l
 induction l with
 | nil=>intro vs h;exact h
 | cons x l ih=>
  intro vs h
  rw [evs]at h
  split at h
  ·rename_i v hv
   split at h
   ·rename_i us hus
    cases h
    simp only [St.opsV,h1 _ _ hv,ih hus]
   cases h
  cases h
theorem Qgi (h1:∀x u,f x=some u→σ.opd x=some u):∀{l:List (Nat×Operand)} {vs:List (Nat×V)},evp f l=some vs→σ.opds l=some vs:=by
 intro l
 induction l with
 | nil=>intro vs h;exact h
 | cons x l ih=>
  intro vs h
  obtain⟨i,x⟩:=x
  rw [evp]at h
  split at h
  ·rename_i v hv
   split at h
   ·rename_i us hus
    cases h
    simp only [St.opds,h1 _ _ hv,ih hus]
   cases h
  cases h
theorem Qag {α:Type _}{c:Bool}{x:Option α}{r:α}(h:(bif c then x else none)=some r):c=true∧x=some r:=by
 cases c with
 | true=>exact⟨rfl,h⟩
 | false=>cases h
theorem Qv2 (h2:∀b u,hp b=some u→look σ.hp b=some u){g:Bool}{m:Qgh}{v u:V}{φ:Option Prop}(h:QA8 hp g m v=some (u,φ))(hφ:(match φ with | none=>True | some p=>p)):QpT σ.hp g v u:=by
 unfold QA8 at h
 cases m with
 | d=>obtain⟨hd,h⟩:=Qag h;cases h;exact .dat _ hd
 | n z=>
  dsimp only at h
  split at h
  ·cases h;exact .nil _
  cases h
 | o us=>
  dsimp only at h
  split at h
  ·dsimp only at h
   split at h
   ·rename_i z rs hb
    obtain⟨hg,h⟩:=Qag h;subst hg;cases h;exact .own _ _ _ _ _ rfl (h2 _ _ hb) hφ.1 hφ.2
   cases h
  cases h
 | f n=>cases h
theorem QpU (h2:∀b u,hp b=some u→look σ.hp b=some u){g:Bool}:∀{ms:List Qgh} {vs us:List V} {k:Prop→Prop},Qr6 hp g ms vs=some (us,k)→∀{p:Prop},k p→Qps σ.hp g vs us∧p:=by
 intro ms
 induction ms with
 | nil=>
  intro vs us k h p hk
  cases vs with
  | nil=>cases h;exact⟨.nil,hk⟩
  | cons=>cases h
 | cons m ms ih=>
  intro vs us k h p hk
  cases vs with
  | nil=>cases h
  | cons v vs=>
   rw [Qr6]at h
   split at h
   ·rename_i u φ hu
    split at h
    ·rename_i us' k' hus
     cases h
     cases φ with
     | none=>obtain⟨a,b⟩:=ih hus hk;exact⟨.cons (Qv2 h2 hu trivial) a,b⟩
     | some q=>obtain⟨a,b⟩:=ih hus hk.2;exact⟨.cons (Qv2 h2 hu hk.1) a,b⟩
    cases h
   cases h
theorem QsX {Tx:TypeId}{cs:List V}{off:Nat}{φ:Option Prop}{r:Rs}(ok:QdO P T)(h:Qui T Tx cs off φ=some r):
  r.ob=none∧r.φ=φ∧((Qhx P Tx=some true∧∃n,Qhg P Tx=some n∧Nat.ble (off+n) cs.length=true∧r.v=.agg ((cs.drop off).take n))∨(Qhx P Tx=some false∧cs[off]? = some r.v)):=by
 unfold Qui at h
 split at h
 ·rename_i hg
  split at h
  ·rename_i n hn
   obtain⟨h1,h⟩:=Qag h
   cases h
   exact⟨rfl,rfl,.inl ⟨ok.ag hg,n,ok.sz hn,h1,rfl⟩⟩
  cases h
 ·rename_i hg
  split at h
  ·rename_i v hv
   cases h
   exact⟨rfl,rfl,.inr ⟨ok.ag hg,hv⟩⟩
  cases h
 cases h
def QaN (P:Program)(C:Ctx)(o:Oper)(d:Nat)(r:Rs)(σ:St):Prop:=Stp P C o σ (σ.addF ⟨d,r.v,r.ob⟩)
theorem QaN.put {r:Rs}(ho:r.ob=none)(h:Stp P C o σ (σ.put d r.v)):QaN P C o d r σ:=by
 obtain⟨v,ob,φ⟩:=r
 cases ho
 exact h
theorem QAt {h:Qkt}{Tx:TypeId}{x:Operand}{v:V}{r:Rs}(ok:QdO P T)(ho:o.op=.load Tx x)(hd:o.dst=some d)(hn:Nat.ble (d+1) C.n=true)(hx:σ.opd x=some v)
  (h2:∀b u,hp b=some u→look σ.hp b=some u) (e:QA9 T h Tx hp v=some r) (hφ:r.holds):QaN P C o d r σ:=by
 unfold QA9 at e
 split at e
 ·rename_i b i off
  split at e
  ·rename_i cs hb
   split at e
   ·obtain⟨e1,e2,⟨e3,n,e4,e5,e6⟩|⟨e3,e4⟩⟩:=QsX ok e
    ·refine QaN.put e1 ?_;rw [e6];exact Stp.loadAL ho hd hn hx (h2 _ _ hb) e3 e4 e5 rfl
    exact QaN.put e1 (Stp.load1L ho hd hn hx (h2 _ _ hb) e3 e4)
   cases e
  ·rename_i z rs hb
   split at e
   ·rename_i r'
    obtain⟨e1,e2,⟨e3,n,e4,e5,e6⟩|⟨e3,e4⟩⟩:=QsX ok e
    ·rw [Rs.holds,e2]at hφ;refine QaN.put e1 ?_;rw [e6];exact Stp.loadAA ho hd hn hx (h2 _ _ hb) e3 e4 hφ e5 rfl
    rw [Rs.holds,e2]at hφ;exact QaN.put e1 (Stp.load1A ho hd hn hx (h2 _ _ hb) e3 hφ e4)
   cases e
  cases e
 ·rename_i cs
  obtain⟨e1,e2,⟨e3,n,e4,e5,e6⟩|⟨e3,e4⟩⟩:=QsX ok e
  ·refine QaN.put e1 ?_;rw [e6];rw [Qnc]at e5;exact Stp.loadAR ho hd hn hx e3 e4 e5 rfl
  exact QaN.put e1 (Stp.load1R ho hd hn hx e3 e4)
 cases e
theorem QBa {op:BinOp}{Tx Ty:TypeId}{x y:Operand}{v u:V}{r:Rs}(ok:QdO P T)(ho:o.op=.binOp op Tx x y Ty)(hd:o.dst=some d)(hn:Nat.ble (d+1) C.n=true)(hx:σ.opd x=some v)(hy:σ.opd y=some u)
  (e:QCX T op Tx v u=some r) (hφ:r.holds):QaN P C o d r σ:=by
 unfold QCX at e
 split at e
 ·rename_i k m k' n
  replace e:=Qag e;obtain⟨e1,e⟩:=e
  have:=Qzv e1;subst this
  split at e
  ·cases e;exact QaN.put rfl (Stp.divi ho hd hn hx hy hφ (.inl ⟨rfl,rfl⟩))
  ·cases e;exact QaN.put rfl (Stp.divi ho hd hn hx hy hφ (.inr ⟨rfl,rfl⟩))
  split at e
  ·rename_i w hw;cases e;exact QaN.put rfl (Stp.bin ho hd hn hx hy hw)
  cases e
 ·replace e:=Qag e;obtain⟨e1,e⟩:=e
  split at e
  ·cases e;exact QaN.put rfl (Stp.eqB ho hd hn hx hy (ok.bo e1) (.inl ⟨rfl,rfl⟩))
  ·cases e;exact QaN.put rfl (Stp.eqB ho hd hn hx hy (ok.bo e1) (.inr ⟨rfl,rfl⟩))
  cases e
 ·split at e
  ·cases e;exact QaN.put rfl (Stp.eqS ho hd hn hx hy (.inl ⟨rfl,rfl⟩))
  ·cases e;exact QaN.put rfl (Stp.eqS ho hd hn hx hy (.inr ⟨rfl,rfl⟩))
  cases e
 cases e
theorem Qzy {Tx:TypeId}{i:Nat}{x:Operand}{v:V}{r:Rs}(ok:QdO P T)(ho:o.op=.fieldAddr Tx x i)(hd:o.dst=some d)(hn:Nat.ble (d+1) C.n=true)(hx:σ.opd x=some v)
  (e:Qzw T Tx i v=some r):QaN P C o d r σ:=by
 unfold Qzw at e
 split at e
 ·split at e
  ·rename_i l hl
   split at e
   ·rename_i n hn';cases e;exact QaN.put rfl (Stp.fieldL ho hd hn hx (ok.fo hl hn'))
   cases e
  cases e
 ·split at e
  ·rename_i l hl
   split at e
   ·rename_i n hn';cases e;exact QaN.put rfl (Stp.fieldR ho hd hn hx (ok.fo hl hn') rfl)
   cases e
  cases e
 cases e
theorem Qzz {h:Qkt}{Tx:TypeId}{x y:Operand}{v u:V}{r:Rs}(ok:QdO P T)(ho:o.op=.indexAddr Tx x y)(hd:o.dst=some d)(hn:Nat.ble (d+1) C.n=true)(hx:σ.opd x=some v)(hy:σ.opd y=some u)
  (h2:∀b u,hp b=some u→look σ.hp b=some u) (e:Qzx T h Tx hp v u=some r) (hφ:r.holds):QaN P C o d r σ:=by
 unfold Qzx at e
 split at e
 ·split at e
  ·rename_i p hp'
   split at e
   ·replace e:=Qag e;obtain⟨e1,e⟩:=e
    obtain⟨pe,pz,pb⟩:=p
    have:=QaM e1;dsimp only at this;subst this
    cases e;exact QaN.put rfl (Stp.idxS ho hd hn hx hy (ok.es hp') hφ.1 hφ.2)
   cases e
  cases e
 ·split at e
  ·rename_i p hp'
   split at e
   ·rename_i z rs hb
    replace e:=Qag e;obtain⟨e1,e⟩:=e
    obtain⟨pe,pz,pb⟩:=p
    have:=QaM e1;dsimp only at this;subst this
    cases e;exact QaN.put rfl (Stp.idxO ho hd hn hx hy (ok.es hp') (h2 _ _ hb) hφ.1 hφ.2)
   cases e
  cases e
 ·split at e
  ·rename_i p hp'
   replace e:=Qag e;obtain⟨e1,e⟩:=e
   rw [Qz,Qx,Qx]at e1
   cases e;exact QaN.put rfl (Stp.idxAL ho hd hn hx hy (ok.ar hp') e1.1 e1.2 rfl)
  cases e
 ·split at e
  ·rename_i p hp'
   replace e:=Qag e;obtain⟨e1,e⟩:=e
   rw [Qz,Qx,Qx]at e1
   cases e;exact QaN.put rfl (Stp.idxAR ho hd hn hx hy (ok.ar hp') e1.1 e1.2 rfl)
  cases e
 cases e
theorem QBb {h:Qkt}{Tx:TypeId}{x:Operand}{v:V}{r:Rs}(ok:QdO P T)(ho:o.op=.call { callee:=.builtin .len,args:=#[x],argTypes:=#[Tx] })(hd:o.dst=some d)(hn:Nat.ble (d+1) C.n=true)(hx:σ.opd x=some v)
  (e:QCY T h Tx v=some r) (hφ:r.holds):QaN P C o d r σ:=by
 have es:∀{t:Nat},(look T.es t).isSome=true→∃p,Qaz P t=some p:=fun {t} h=>by
  cases hl:look T.es t with
  | none=>rw [hl]at h;cases h
  | some p=>exact⟨p,ok.es hl⟩
 unfold QCY at e
 split at e
 ·replace e:=Qag e;obtain⟨e1,e⟩:=e;obtain⟨p,hp'⟩:=es e1
  split at e
  ·cases e;exact QaN.put rfl (Stp.lenS' ho hd hn hx hp' hφ)
  cases e;exact QaN.put rfl (Stp.lenS ho hd hn hx hp')
 ·replace e:=Qag e;obtain⟨e1,e⟩:=e;obtain⟨p,hp'⟩:=es e1;cases e;exact QaN.put rfl (Stp.lenO ho hd hn hx hp')
 ·replace e:=Qag e;obtain⟨e1,e⟩:=e;obtain⟨p,hp'⟩:=es e1;cases e;exact QaN.put rfl (Stp.lenN ho hd hn hx hp')
 ·replace e:=Qag e;obtain⟨e1,e⟩:=e;cases e;exact QaN.put rfl (Stp.lenStr ho hd hn hx (ok.sb e1))
 cases e
theorem Qyv {mx:Bool}{x y:Operand}{v u:V}{ts:Array TypeId}{r:Rs}(ho:o.op=.call { callee:=.builtin (if mx then .max else .min),args:=#[x,y],argTypes:=ts })(hd:o.dst=some d)(hn:Nat.ble (d+1) C.n=true)(hx:σ.opd x=some v)(hy:σ.opd y=some u)
  (e:mmV mx v u=some r):QaN P C o d r σ:=by
 unfold mmV at e
 split at e
 ·replace e:=Qag e;obtain⟨e1,e⟩:=e
  have:=Qzv e1;subst this
  cases mx with
  | true=>cases e;exact QaN.put rfl (Stp.max2 ho hd hn hx hy)
  | false=>cases e;exact QaN.put rfl (Stp.min2 ho hd hn hx hy)
 cases e
theorem QB0 {h:Qkt}{Tx:TypeId}{x y:Operand}{v u:V}{r:Rs}(ok:QdO P T)(ho:o.op=.makeSlice Tx x y)(hd:o.dst=some d)(hn:Nat.ble (d+1) C.n=true)(hx:σ.opd x=some v)(hy:σ.opd y=some u)
  (e:mkV T h Tx d v u=some r) (hφ:r.holds) (hf:r.ob.isSome=true→look σ.hp d=none):QaN P C o d r σ:=by
 unfold mkV at e
 split at e
 ·split at e
  ·rename_i p hp'
   split at e
   ·rename_i zs hz
    split at e
    ·replace e:=Qag e;obtain⟨e1,e⟩:=e
     simp only [Qz,Qfg]at e1
     obtain⟨⟨⟨a1,a2⟩,a3⟩,a4⟩:=e1
     cases e
     exact Stp.make' ho hd hn hx hy (ok.es hp') (ok.zv hz) (QaM a1) (fun h0=>by rw [h0]at a2;cases a2) a3 hφ.1 a4 (hf rfl) hφ.2
    cases e
   cases e
  cases e
 cases e
theorem Gives.own {fn:Nat}{us:List V}{z m:Nat}{rows:List (List V)}(h:Qd P fn us [] (Gives (.own 600 m) [(600,.arr z rows)]))(hm:rows.length=m):Qd P fn us [] (Qzp z rows):=
 h.mono fun v hs ⟨a,b⟩=>⟨600,by rw [a,hm],b _ _ rfl⟩
theorem QAu {h:Qkt}{fn:Nat}{vs:List V}{r:Rs}(ok:QdO P T)(hE:QbW P C o σ fn vs)(hd:o.dst=some d)(hn:Nat.ble (d+1) C.n=true)(hpg:C.pg P)
  (h2:∀b u,hp b=some u→look σ.hp b=some u) (e:Qzf P T h hp d fn vs=some r) (hφ:r.holds) (hf:r.ob.isSome=true→look σ.hp d=none):QaN P C o d r σ:=by
 unfold Qzf at e
 replace e:=Qag e;obtain⟨e1,e⟩:=e
 split at e
 ·split at e
  ·rename_i us k hv
   replace e:=Qag e;obtain⟨e2,e⟩:=e
   cases e
   obtain⟨a1,a2⟩:=QpU h2 hv hφ
   refine QaN.put rfl (Stp.callE hE hd hn hpg a1 (a2.mono fun _ _ h=>h.1) ?_)
   rw [QdN,Qz]at e2
   exact e2.imp (fun h=>⟨by simpa using h.1,h.2⟩) id
  cases e
 ·split at e
  ·rename_i us k hv
   cases e
   obtain⟨a1,a2,a3,a4⟩:=QpU h2 hv hφ
   exact Stp.callOE hE hd hn hpg a1 (Gives.own a2 a3) a4 (hf rfl) a3
  cases e
 ·split at e
  ·rename_i us k hv
   replace e:=Qag e;obtain⟨e2,e⟩:=e
   cases e
   obtain⟨a1,a2,a3⟩:=QpU h2 hv hφ
   exact QaN.put rfl (Stp.callE hE hd hn hpg a1 (Gives.own a2 a3).toData (.inl ⟨by simpa using e2,rfl⟩))
  cases e
 cases e
theorem Quj {h:Qkt}{r:Rs}(ok:QdO P T)(hd:o.dst=some d)(hn:Nat.ble (d+1) C.n=true)(hpg:C.pg P)(h1:∀x u,f x=some u→σ.opd x=some u)(h2:∀b u,hp b=some u→look σ.hp b=some u)
  (e:ev1 P C T h o d f hp=some r) (hφ:r.holds) (hf:r.ob.isSome=true→look σ.hp d=none):QaN P C o d r σ:=by
 unfold ev1 at e
 split at e
 ·cases e;exact hφ σ h1 h2 hf
 split at e
 ·rename_i x ho
  split at e
  ·rename_i v hv;cases e;exact QaN.put rfl (Stp.move ho hd hn (h1 _ _ hv))
  cases e
 ·rename_i x ho
  split at e
  ·rename_i v hv;cases e;exact QaN.put rfl (Stp.assign ho hd hn (h1 _ _ hv))
  cases e
 ·rename_i c a b ho
  split at e
  ·rename_i hc
   split at e
   ·rename_i v hv;cases e;exact QaN.put rfl (Stp.pickT ho hd hn (h1 _ _ hc) rfl (h1 _ _ hv))
   cases e
  ·rename_i hc
   split at e
   ·rename_i v hv;cases e;exact QaN.put rfl (Stp.pickF ho hd hn (h1 _ _ hc) rfl (h1 _ _ hv))
   cases e
  cases e
 ·rename_i op Tx x y Ty ho
  split at e
  ·rename_i v hv
   split at e
   ·rename_i u hu;exact QBa ok ho hd hn (h1 _ _ hv) (h1 _ _ hu) e hφ
   cases e
  cases e
 ·rename_i op Tx x ho
  split at e
  ·rename_i v hv
   unfold unV at e
   split at e
   ·split at e
    ·cases e;exact QaN.put rfl (Stp.not ho hd hn (h1 _ _ hv))
    cases e
   ·split at e
    ·cases e;exact QaN.put rfl (Stp.neg ho hd hn (h1 _ _ hv))
    cases e
   cases e
  cases e
 ·rename_i Tx ho
  split at e
  ·rename_i zs hz;cases e;exact Stp.alloc ho hd hn (ok.zv hz) (hf rfl)
  cases e
 ·rename_i Tx x ho
  split at e
  ·rename_i cs hv;cases e;exact Stp.box ho hd hn (h1 _ _ hv) (.inr ⟨_,rfl⟩) (hf rfl)
  ·rename_i v hne hv
   replace e:=Qag e;obtain⟨e1,e⟩:=e
   cases e
   have hc:v.cells=[v]:=by cases v<;>first | rfl | exact absurd rfl (hne _)
   have:=Stp.box (P:=P) ho hd hn (h1 _ _ hv) (.inl e1) (hf rfl)
   rw [hc]at this;exact this
  cases e
 ·rename_i Tx x ho
  split at e
  ·rename_i v hv;exact QAt ok ho hd hn (h1 _ _ hv) h2 e hφ
  cases e
 ·rename_i Tx x i ho
  split at e
  ·rename_i v hv;exact Qzy ok ho hd hn (h1 _ _ hv) e
  cases e
 ·rename_i Tx x y ho
  split at e
  ·rename_i v hv
   split at e
   ·rename_i u hu;exact Qzz ok ho hd hn (h1 _ _ hv) (h1 _ _ hu) h2 e hφ
   cases e
  cases e
 ·rename_i Tx parts ho
  split at e
  ·rename_i qs hq
   split at e
   ·rename_i zs hz
    replace e:=Qag e;obtain⟨e1,e⟩:=e
    split at e
    ·rename_i pl hpl
     split at e
     ·rename_i vs hvs;cases e;exact QaN.put rfl (Stp.build ho hd hn (ok.zv hz) (ok.sp hpl) (Qgi h1 hq) e1 hvs)
     cases e
    split at e
    ·rename_i p hp'
     split at e
     ·rename_i vs hvs;cases e;exact QaN.put rfl (Stp.buildA ho hd hn (ok.zv hz) (ok.ar hp') (Qgi h1 hq) e1 hvs)
     cases e
    cases e
   cases e
  cases e
 ·rename_i Tx n parts ho
  split at e
  ·rename_i qs hq
   split at e
   ·rename_i p hp'
    split at e
    ·rename_i zs hz
     replace e:=Qag e;obtain⟨e1,e⟩:=e
     split at e
     ·rename_i vs hvs
      simp only [Qz,Qfg]at e1
      obtain⟨⟨⟨e3,e4⟩,e5⟩,e6⟩:=e1
      have e4:=QaM e4
      split at e
      ·replace e:=Qag e;obtain⟨e2,e⟩:=e
       cases e
       rw [Qz]at e2
       exact QaN.put rfl (Stp.buildSliceD _ ho hd hn (ok.es hp') (ok.zv hz) e4 (fun h0=>by rw [h0]at e5;cases e5) (Qb8 e6) (Qgi h1 hq) e3 hvs e2.1 e2.2 rfl)
      replace e:=Qag e;obtain⟨e2,e⟩:=e
      cases e
      rw [Qz]at e2
      exact Stp.buildSlice ho hd hn (ok.es hp') (ok.zv hz) e4 (fun h0=>by rw [h0]at e5;cases e5) (Qb8 e6) (Qgi h1 hq) e3 hvs e2.1 e2.2 rfl (hf rfl)
     cases e
    cases e
   cases e
  cases e
 ·rename_i x i ho
  split at e
  ·rename_i vs hv
   split at e
   ·rename_i v hv';cases e;exact QaN.put rfl (Stp.extract ho hd hn (h1 _ _ hv) hv')
   cases e
  cases e
 ·rename_i x ho
  split at e
  ·rename_i hv;cases e;exact QaN.put rfl (Stp.nilCheckL ho hd hn (h1 _ _ hv))
  cases e
 ·rename_i Tx x ho
  split at e
  ·rename_i v hv
   replace e:=Qag e;obtain⟨e1,e⟩:=e
   cases e;exact QaN.put rfl (Stp.makeInterface ho hd hn (h1 _ _ hv) (ok.cc e1))
  cases e
 ·rename_i x S Tx ho
  split at e
  ·rename_i t v hv
   replace e:=Qag e;obtain⟨e1,e⟩:=e
   rw [Qz]at e1
   have:=QaM e1.1;subst this
   cases e;exact QaN.put rfl (Stp.typeAssert ho hd hn (h1 _ _ hv) (ok.cc e1.2))
  cases e
 ·rename_i fn first caps ho
  split at e
  ·rename_i vs hv
   split at e
   ·rename_i us hu;cases e;exact QaN.put rfl (Stp.makeFunc ho hd hn (QeK h1 hv) (QeK h1 hu))
   cases e
  cases e
 ·rename_i Tx x y ho
  split at e
  ·rename_i s hs
   split at e
   ·rename_i k j hj
    split at e
    ·replace e:=Qag e;obtain⟨e1,e⟩:=e
     cases e;exact QaN.put rfl (Stp.idxStr' ho hd hn (h1 _ _ hs) (h1 _ _ hj) (ok.sb e1) hφ)
    cases e
   cases e
  cases e
 ·rename_i Tx x y ho
  split at e
  ·rename_i v hv
   split at e
   ·rename_i u hu;exact QB0 ok ho hd hn (h1 _ _ hv) (h1 _ _ hu) e hφ hf
   cases e
  cases e
 ·rename_i ho;cases e;exact Stp.makeMap ho hd hn (hf rfl)
 ·rename_i c ho
  obtain⟨cl,ags,ts⟩:=c
  split at e
  ·rename_i hc
   dsimp only at hc e;subst hc
   split at e
   ·rename_i x y hxy
    split at e
    ·rename_i v hv
     split at e
     ·rename_i u hu
      have ea:ags=#[x,y]:=by rw [←Qua (xs:=ags),hxy]
      subst ea
      exact Qyv (mx:=true) ho hd hn (h1 _ _ hv) (h1 _ _ hu) e
     cases e
    cases e
   cases e
  ·rename_i hc
   dsimp only at hc e;subst hc
   split at e
   ·rename_i x y hxy
    split at e
    ·rename_i v hv
     split at e
     ·rename_i u hu
      have ea:ags=#[x,y]:=by rw [←Qua (xs:=ags),hxy]
      subst ea
      exact Qyv (mx:=false) ho hd hn (h1 _ _ hv) (h1 _ _ hu) e
     cases e
    cases e
   cases e
  ·rename_i hc
   dsimp only at hc e;subst hc
   split at e
   ·rename_i x hx
    split at e
    ·rename_i Tx hT
     split at e
     ·rename_i v hv
      have ea:ags=#[x]:=by rw [←Qua (xs:=ags),hx]
      have et:ts=#[Tx]:=by rw [←Qua (xs:=ts),hT]
      subst ea;subst et
      exact QBb ok ho hd hn (h1 _ _ hv) e hφ
     cases e
    cases e
   cases e
  ·rename_i x hc
   dsimp only at hc e;subst hc
   split at e
   ·rename_i fn fs cs hx
    split at e
    ·rename_i vs hv
     have e1:Q8 T.en fn=true:=by unfold Qzf at e;exact(Qag e).1
     exact QAu ok (QbW.clo ho (h1 _ _ hx) (ok.en e1) (QeK h1 hv)) hd hn hpg h2 e hφ hf
    cases e
   cases e
  cases e
 cases e
end
end Go.Vm
namespace Go.Vm
open Go Go.RowKit
inductive Fr where
 | seq (y:Code)
 | blk (id:Nat)
 | cut (K:St→Prop)
inductive Pt where
 | c (c:Code)
 | o (ops:Array Oper) (l:List Oper)
 | x (e:Exit)
section
variable (P:Program)(C:Ctx)(Q:Exit→St→Prop)
def unw : List Fr→Exit→St→Prop
 | []=>Q
 | .seq y::k=>QsL (fun σ=>AWp P C y σ (unw k)) (unw k)
 | .blk id::k=>QpO id (unw k)
 | .cut K::k=>QsL K (unw k)
def AK (pt:Pt)(ks:List Fr)(σ:St):Prop:=match pt with
 | .c c=>AWp P C c σ (unw P C Q ks)
 | .o ops l=>AL P C ops l σ (unw P C Q ks)
 | .x e=>∀a w,R C σ a w→up C (unw P C Q ks) e a w
end
section
variable {P:Program}{C:Ctx}{Q:Exit→St→Prop}{σ σ':St}{ks:List Fr}
theorem AK.weaken {pt:Pt}(h:∀a w,R C σ a w→R C σ' a w)(k:AK P C Q pt ks σ'):AK P C Q pt ks σ:=by
 cases pt with
 | c c=>exact fun a w hR=>k a w (h a w hR)
 | o ops l=>exact fun a w hR=>k a w (h a w hR)
 | x e=>exact fun a w hR=>k a w (h a w hR)
theorem AK.done {e:Exit}(h:Q e σ):AK P C Q (.x e) [] σ:=fun a w hR=>⟨σ,h,hR⟩
theorem AK.met {K:St→Prop}(h:K σ):AK P C Q (.x .normal) (.cut K::ks) σ:=fun a w hR=>⟨σ,h,hR⟩
theorem AK.seq {x y:Code}(h:AK P C Q (.c x) (.seq y::ks) σ):AK P C Q (.c (.seq x y)) ks σ:=AWp.seq h
theorem AK.block {id:Nat}{x:Code}(h:AK P C Q (.c x) (.blk id::ks) σ):AK P C Q (.c (.block id x)) ks σ:=AWp.block h
theorem AK.region {id:Nat}{ops:Array Oper}(h:AK P C Q (.o ops ops.toList) ks σ):AK P C Q (.c (.region id ops false)) ks σ:=AWp.region h
theorem AK.skip (h:AK P C Q (.x .normal) ks σ):AK P C Q (.c .skip) ks σ:=fun a w hR=>wpIn_skip (h a w hR)
theorem AK.label {l:Nat}(h:AK P C Q (.x .normal) ks σ):AK P C Q (.c (.label l)) ks σ:=fun a w hR=>wpIn_label (h a w hR)
theorem AK.exit {id:Nat}(h:AK P C Q (.x (.exit id)) ks σ):AK P C Q (.c (.exit id)) ks σ:=fun a w hR=>wpIn_exit (h a w hR)
theorem AK.ret (h:AK P C Q (.x .ret) ks σ):AK P C Q (.c .ret) ks σ:=fun a w hR=>wpIn_ret (h a w hR)
theorem AK.nil {ops:Array Oper}(h:AK P C Q (.x .normal) ks σ):AK P C Q (.o ops []) ks σ:=h
theorem AK.popSeq {y:Code}(h:AK P C Q (.c y) ks σ):AK P C Q (.x .normal) (.seq y::ks) σ:=fun a w hR=>⟨σ,h,hR⟩
theorem AK.popBlk {id:Nat}(h:AK P C Q (.x .normal) ks σ):AK P C Q (.x .normal) (.blk id::ks) σ:=h
theorem AK.exSeq {y:Code}{i:Nat}(h:AK P C Q (.x (.exit i)) ks σ):AK P C Q (.x (.exit i)) (.seq y::ks) σ:=h
theorem AK.exCut {K:St→Prop}{i:Nat}(h:AK P C Q (.x (.exit i)) ks σ):AK P C Q (.x (.exit i)) (.cut K::ks) σ:=h
theorem AK.exBlk {i j:Nat}(e:Nat.beq i j=true)(h:AK P C Q (.x .normal) ks σ):AK P C Q (.x (.exit i)) (.blk j::ks) σ:=fun a w hR=>
 let ⟨σ',h1,h2⟩:=h a w hR;⟨σ',QFW e h1,h2⟩
theorem AK.exBlk' {i j:Nat}(e:Nat.beq i j=false)(h:AK P C Q (.x (.exit i)) ks σ):AK P C Q (.x (.exit i)) (.blk j::ks) σ:=fun a w hR=>
 let ⟨σ',h1,h2⟩:=h a w hR;⟨σ',QFX e h1,h2⟩
theorem AK.retPop {f:Fr}(h:AK P C Q (.x .ret) ks σ):AK P C Q (.x .ret) (f::ks) σ:=by
 cases f<;>exact h
theorem AK.meet {x y:Code}(K:St→Prop)(hx:AK P C Q (.c x) (.cut K::ks) σ)(hy:∀σ',K σ'→AK P C Q (.c y) ks σ'):AK P C Q (.c (.seq x y)) ks σ:=AWp.seqK K hx hy
theorem AK.meetX {c:Code}(K:St→Prop)(hx:AK P C Q (.c c) (.cut K::ks) σ)(hy:∀σ',K σ'→AK P C Q (.x .normal) ks σ'):AK P C Q (.c c) ks σ:=by
 intro a w hR
 refine wpIn_mono (hx a w hR) ?_
 rintro e a w ⟨σ',h1,h2⟩
 cases e<;>first | exact hy σ' h1 a w h2 | exact⟨σ',h1,h2⟩
def QBc {τ ρ:Type}(E:τ→St→Prop)(Post:ρ→Exit→St→Prop)(o:τ⊕ρ):Exit→St→Prop:=
 QsL (fun σ'=>∃s',o=.inl s'∧E s' σ') (fun e σ'=>∃r,o=.inr r∧Post r e σ')
theorem QZ {τ ρ:Type}{E:τ→St→Prop}{Post:ρ→Exit→St→Prop}{o:τ⊕ρ}{s':τ}(h:o=.inl s')(he:E s' σ):AK P C (QBc E Post o) (.x .normal) [] σ:=AK.done ⟨s',h,he⟩
theorem Q1 {τ ρ:Type}{E:τ→St→Prop}{Post:ρ→Exit→St→Prop}{o:τ⊕ρ}{r:ρ}{i:Nat}(h:o=.inr r)(he:Post r (.exit i) σ):AK P C (QBc E Post o) (.x (.exit i)) [] σ:=AK.done ⟨r,h,he⟩
theorem Qal {τ ρ:Type}{E:τ→St→Prop}{Post:ρ→Exit→St→Prop}{o:τ⊕ρ}{r:ρ}(h:o=.inr r)(he:Post r .ret σ):AK P C (QBc E Post o) (.x .ret) [] σ:=AK.done ⟨r,h,he⟩
theorem AK.loop {τ ρ:Type}{body:τ→Option (τ⊕ρ)}{c:Code}(E:τ→St→Prop)(Post:ρ→Exit→St→Prop){s0:τ}{r:ρ}(hr:QE body s0=some r)(h0:E s0 σ)
  (round:∀s o σ,E s σ→body s=some o→AK P C (QBc E Post o) (.c c) [] σ) (hQ:∀e σ',Post r e σ'→AK P C Q (.x e) ks σ'):AK P C Q (.c (.loop c)) ks σ:=by
 intro a w hR
 refine wpIn_mono (AWp.loop (Q:=fun e σ'=>Post r e σ') E Post round (QqZ.1 hr) h0 (fun e σ' h=>h) a w hR) ?_
 rintro e a' w' ⟨σ',hp,hR'⟩
 exact hQ e σ' hp a' w' hR'
end
def V.isUnd : V→Bool
 | .lit (.tuple a)=>a.isEmpty
 | _=>false
theorem V.isUnd_eq {v:V}(h:v.isUnd=true):v=.lit undef:=by
 unfold V.isUnd at h
 split at h
 ·rename_i a;rw [Array.isEmpty_iff]at h;subst h;rfl
 cases h
inductive Ent where
 | fn
 | clo
 | me (f:Nat)
 | mv (f e:Nat)
def bkM : List (Nat×Nat)→Nat→Option Nat
 | [],_=>none
 | (b,a')::r,a=>bif Nat.beq a' a then some b else bkM r a
def trC (bk:Nat→Option Nat):V→Option V
 | .own a n=>match bk a with
  | some b=>some (.own b n)
  | none=>none
 | .loc a i d=>match bk a with
  | some b=>some (.loc b i d)
  | none=>none
 | .map a=>match bk a with
  | some b=>some (.map b)
  | none=>none
 | .ifc t x=>match trC bk x with
  | some y=>some (.ifc t y)
  | none=>none
 | v=>bif v.datA then some v else none
def trL (bk:Nat→Option Nat):List V→Option (List V)
 | []=>some []
 | v::vs=>match trC bk v with
  | some u=>match trL bk vs with
   | some us=>some (u::us)
   | none=>none
  | none=>none
def trV (bk:Nat→Option Nat):V→Option V
 | .agg cs=>bif (V.agg cs).datA then some (.agg cs)else match trL bk cs with
  | some us=>some (.agg us)
  | none=>none
 | .tup cs=>bif (V.tup cs).datA then some (.tup cs)else match trL bk cs with
  | some us=>some (.tup us)
  | none=>none
 | .clo fn fs cs=>match trL bk fs with
  | some us=>match trL bk cs with
   | some ds=>some (.clo fn us ds)
   | none=>none
  | none=>none
 | v=>trC bk v
def QzA (bk:Nat→Option Nat):List V→Option (List V)
 | []=>some []
 | v::vs=>match trV bk v with
  | some u=>match QzA bk vs with
   | some us=>some (u::us)
   | none=>none
  | none=>none
def trO (bk:Nat→Option Nat):Ob→Option Ob
 | .var cs=>match QzA bk cs with
  | some us=>some (.var us)
  | none=>none
 | .lp l K cs q=>match QzA bk cs with
  | some us=>some (.lp l K us q)
  | none=>none
 | .arr z rs=>some (.arr z rs)
 | .map l=>some (.map l)
 | .grp z l lk=>some (.grp z l lk)
 | .tbl A z rs=>some (.tbl A z rs)
 | _=>none
def QEw (bk:Nat→Option Nat):Qgh→V→Option V
 | .n z,.lit (.slice none 0 0)=>some (.sl z [])
 | .d,v=>trV bk v
 | .f n,.agg cs=>match trL bk (cs.set n .J)with
  | some us=>match us[n]? with
   | some .J=>some (.agg us)
   | _=>none
  | none=>none
 | _,_=>none
def Qms (bk:Nat→Option Nat):List Qgh→List V→Option (List V)
 | [],[]=>some []
 | m::ms,v::vs=>match QEw bk m v with
  | some u=>match Qms bk ms vs with
   | some us=>some (u::us)
   | none=>none
  | none=>none
 | _,_=>none
def Qic (bk:Nat→Option Nat)(src:Nat→Option Ob):List (Nat×Nat)→Option (List (Nat×Ob))
 | []=>some []
 | (d,s)::r=>match src s with
  | some ob=>match trO bk ob with
   | some ob'=>match Qic bk src r with
    | some l=>some ((d,ob')::l)
    | none=>none
   | none=>none
  | none=>none
def QCZ (P:Program)(T:Tab)(σ:St)(φ:Prop)(c:Call):Ent→Option (Nat×List V×Prop)
 | .fn=>match c.callee with
  | .value (.func f)=>bif Q8 T.en f then match evs σ.opd c.args.toList with
   | some vs=>some (f,vs,φ)
   | none=>none
   else none
  | _=>none
 | .clo=>match c.callee with
  | .value x=>match σ.opd x with
   | some (.clo (.func f) fs cs)=>bif Q8 T.en f then match evs σ.opd c.args.toList with
    | some vs=>some (f,fs++(vs++cs),φ)
    | none=>none
    else none
   | _=>none
  | _=>none
 | .me f=>match c.callee with
  | .invoke x name=>match σ.opd x with
   | some (.ifc t u)=>bif Q8 T.en f then match evs σ.opd c.args.toList with
    | some vs=>some (f,u::vs,φ∧((Qnf P t name=some (f,true)∧Qzt P t=true)∨(Qnf P t name=some (f,false)∧Quh P t=true)))
    | none=>none
    else none
   | _=>none
  | _=>none
 | .mv f e=>match c.callee with
  | .invoke x name=>match σ.opd x with
   | some (.ifc t (.loc b 0 off))=>match look σ.hp b with
    | some (.var cs)=>match cs[off]? with
     | some r=>bif Q8 T.en f then match evs σ.opd c.args.toList with
      | some vs=>some (f,r::vs,φ∧(Qnf P t name=some (f,false)∧QwZ P t e=true∧Qhx P e=some false))
      | none=>none
      else none
     | none=>none
    | _=>none
   | _=>none
  | _=>none
def cmV (P:Program)(σ:St)(φ:Prop)(d f:Nat)(vs:List V)(M N:List (Nat×Nat))(dead:List Nat)(ms:List Qgh)(outs:List (Nat×Ob))(r:V):Option (St×Prop):=
 bif Qdf σ M N dead outs&&Qgf (M.map Prod.fst)&&Qgf (N.map Prod.fst)then match Qms (bkM M) ms vs with
  | some us=>match Qic (bkM M) (look σ.hp) M with
   | some hsC=>match Qic (bkM N) (look outs) N with
    | some hsN=>match trV (bkM N) r with
     | some r'=>some ((σ.after dead hsN).put d r',φ∧Qd P f us hsC (Gives r outs))
     | none=>none
    | none=>none
   | none=>none
  | none=>none
 else none
inductive Dir where
 | n (k:Nat)
 | o (h:Qkt)
 | v (h:Qkt) (ms:List (Option Nat)) (v:V)
 | br (b:Bool)
 | st (r:List V) (rs:List (List V))
 | app (rs:List (List V)) (m:Nat)
 | x (g:St→St)
 | say (t:Nat) (v:V)
 | sayO (b:Nat) (ob:Ob)
 | to (fr:List (Nat×V)) (hp:List (Nat×Ob))
 | freeze (t:Nat) (us:List (List V))
 | adopt (t b z:Nat)
 | denil (t:Nat) (ms:List (Option Nat))
 | denilO (b:Nat) (ms:List (Option Nat))
 | ren (o o':Nat)
 | kill (b:Nat)
 | keep (ts os:List Nat)
 | frz (b:Nat) (us:List (List V)) (ts os:List Nat)
 | adoptO (p i b z:Nat)
 | cm (en:Ent) (M N:List (Nat×Nat)) (dead:List Nat) (ms:List Qgh) (outs:List (Nat×Ob)) (r:V)
structure Cfg where
 pt:Pt
 ks:List Fr
 σ:St
 φ:Prop
def QpV (φ:Prop):Option Prop→Prop
 | none=>φ
 | some p=>φ∧p
def ctl : Pt→List Fr→St→Option (Pt×List Fr)
 | .c (.seq x y),ks,_=>some (.c x,.seq y::ks)
 | .c (.block id x),ks,_=>some (.c x,.blk id::ks)
 | .c (.region _ ops false),ks,_=>some (.o ops ops.toList,ks)
 | .c .skip,ks,_=>some (.x .normal,ks)
 | .c (.label _),ks,_=>some (.x .normal,ks)
 | .c (.exit i),ks,_=>some (.x (.exit i),ks)
 | .c .ret,ks,_=>some (.x .ret,ks)
 | .c (.cond c x y),ks,σ=>match σ.opd c with
  | some (.b true)=>some (.c x,ks)
  | some (.b false)=>some (.c y,ks)
  | _=>none
 | .o _ [],ks,_=>some (.x .normal,ks)
 | .x .normal,.seq y::ks,_=>some (.c y,ks)
 | .x .normal,.blk _::ks,_=>some (.x .normal,ks)
 | .x (.exit i),.seq _::ks,_=>some (.x (.exit i),ks)
 | .x (.exit i),.cut _::ks,_=>some (.x (.exit i),ks)
 | .x (.exit i),.blk j::ks,_=>bif Nat.beq i j then some (.x .normal,ks)else some (.x (.exit i),ks)
 | .x .ret,_::ks,_=>some (.x .ret,ks)
 | _,_,_=>none
def QfM (ops:Array Oper)(o:Oper)(f:Nat→Option V):Option Bool:=match o.guard with
 | none=>some true
 | some (j,t)=>match ops[j]? with
  | some oj=>match oj.dst with
   | some d=>match f d with
    | some (.b true)=>some t
    | some (.b false)=>some (!t)
    | some v=>bif v.isUnd then some false else none
    | none=>none
   | none=>none
  | none=>none
def QB1 (T:Tab)(Tx:TypeId)(σ:St)(φ:Prop):V→V→Option (St×Prop)
 | .loc b i off,v=>match look σ.hp b with
  | some (.var cs)=>match i with
   | 0=>match look T.sz Tx with
    | some n=>bif v.isV&&Nat.beq v.cells.length n&&v.cells.all V.one&&Nat.ble (off+n) cs.length then some (σ.set b (.var (QcJ cs off v.cells)),φ)else none
    | none=>none
   | _=>none
  | _=>none
 | _,_=>none
def storeA (T:Tab)(Tx:TypeId)(σ:St)(φ:Prop)(r:List V)(rs':List (List V)):V→V→Option (St×Prop)
 | .loc b i off,v=>match look σ.hp b with
  | some (.arr z rs)=>match look T.sz Tx with
    | some n=>bif v.isV&&Nat.beq v.cells.length n&&v.cells.all V.one&&v.cells.all V.dat&&Nat.ble (off+n) z then
     some (σ.set b (.arr z rs'),φ∧(rs[i]? = some r∧rs.set i (QcJ r off v.cells)=rs'))else none
    | none=>none
  | _=>none
 | _,_=>none
def op1 (P:Program)(C:Ctx)(T:Tab)(n:Nat)(h:Qkt)(sv:Option (List (Option Nat)×V))(o:Oper)(σ:St)(φ:Prop):Option (St×Prop):=match o.dst with
 | some d=>bif Nat.ble (d+1) n then match ev1 P C T h o d σ.opd (look σ.hp)with
  | some ⟨v,none,q⟩=>match sv with
   | none=>some (σ.put d v,QpV φ q)
   | some (ms,u)=>some (σ.put d u,QpV φ q∧v.denil ms=u)
  | some ⟨v,some ob,q⟩=>match look σ.hp d with
   | none=>match sv with
    | none=>some ((σ.set d ob).put d v,QpV φ q)
    | some (ms,u)=>some ((σ.set d ob).put d u,QpV φ q∧v.denil ms=u)
   | some _=>none
  | none=>none
  else none
 | none=>match o.op with
  | .store Tx x y=>match σ.opd x with
   | some p=>match σ.opd y with
    | some v=>QB1 T Tx σ φ p v
    | none=>none
   | none=>none
  | _=>none
def QC0 (T:Tab)(n:Nat)(σ:St)(φ:Prop)(rs':List (List V))(m:Nat)(d Tx Ty:Nat):V→V→Option (St×Prop)
 | .own b k,y=>match look σ.hp b with
  | some (.arr z rs)=>match look T.es Tx with
   | some (e,z',by_)=>match look T.zv e with
    | some zs=>bif (look T.es Ty).isSome&&Nat.ble (d+1) n&&!(Nat.ble 615 b)&&Nat.beq z z'&&Nat.beq zs.length z&&!(Nat.beq z 0)&&Nat.ble by_ 32768 then match y with
     | .sl z'' us=>bif Nat.beq z z'' then some (σ.app b z d m rs',φ∧(rs.length=k∧decide (k+us.length≤4294967296)=true∧rs++us=rs'∧k+us.length=m))else none
     | .own b' k'=>match look σ.hp b' with
      | some (.arr z'' us)=>bif Nat.beq z z'' then some (σ.app b z d m rs',φ∧(rs.length=k∧decide (k+k'≤4294967296)=true∧us.length=k'∧rs++us=rs'∧k+k'=m))else none
      | _=>none
     | .lit (.slice none 0 0)=>some (σ.app b z d k rs,φ∧(rs.length=k∧decide (k≤4294967296)=true))
     | _=>none
     else none
    | none=>none
   | none=>none
  | _=>none
 | _,_=>none
def QiG {α:Type}(l:List (Nat×α)):List Nat→Option (List (Nat×α))
 | []=>some []
 | t::ts=>match look l t with
  | some v=>match QiG l ts with
   | some r=>some ((t,v)::r)
   | none=>none
  | none=>none
def V.frzC (b z:Nat)(us:List (List V)):V→V
 | .own o k=>bif Nat.beq o b then .sl z us else .own o k
 | v=>v
def V.frz (b z:Nat)(us:List (List V)):V→V
 | .agg cs=>.agg (cs.map (V.frzC b z us))
 | v=>v.frzC b z us
def QzB (b:Nat)(rs us:List (List V)):V→Prop
 | .own o k=>bif Nat.beq o b then k≤rs.length∧rs.take k=us else True
 | _=>True
def QsY (b:Nat)(rs us:List (List V)):List V→Prop
 | []=>True
 | .own o k::r=>QzB b rs us (.own o k)∧QsY b rs us r
 | _::r=>QsY b rs us r
def QC1 (b:Nat)(rs us:List (List V)):V→Prop
 | .agg cs=>QsY b rs us cs
 | v=>QzB b rs us v
def V.isOwn (b:Nat):V→Bool
 | .own o _=>Nat.beq o b
 | _=>false
def V.frzB (b:Nat):V→Bool
 | .agg cs=>cs.all fun c=>c.freeC b||c.isOwn b
 | v=>v.freeC b||v.isOwn b
def Qwd (b z:Nat)(rs us:List (List V))(σ0:St):List Nat→St→Prop→Option (St×Prop)
 | [],σ,φ=>some (σ,φ)
 | t::ts,σ,φ=>match look σ0.fr t with
  | some v=>bif v.frzB b then Qwd b z rs us σ0 ts (σ.put t (v.frz b z us)) (φ∧QC1 b rs us v)else none
  | none=>none
def QzC (b z:Nat)(rs us:List (List V))(σ0:St):List Nat→St→Prop→Option (St×Prop)
 | [],σ,φ=>some (σ,φ)
 | p::ps,σ,φ=>match look σ0.hp p with
  | some (.var cs)=>bif !(Nat.beq p b)&&cs.all (fun c=>c.freeC b||c.isOwn b)&&(look σ.hp p).isSome then QzC b z rs us σ0 ps (σ.set p (.var (cs.map (V.frzC b z us)))) (φ∧QsY b rs us cs)else none
  | _=>none
def QC2 (P:Program)(C:Ctx)(T:Tab)(n:Nat):Dir→Pt→List Fr→St→Prop→Option Cfg
 | .o h,.o ops (o::l),ks,σ,φ=>match QfM ops o (look σ.fr)with
  | some true=>match op1 P C T n h none o σ φ with
   | some (σ',φ')=>some ⟨.o ops l,ks,σ',φ'⟩
   | none=>none
  | _=>none
 | .v h ms u,.o ops (o::l),ks,σ,φ=>match QfM ops o (look σ.fr)with
  | some true=>match op1 P C T n h (some (ms,u)) o σ φ with
   | some (σ',φ')=>some ⟨.o ops l,ks,σ',φ'⟩
   | none=>none
  | _=>none
 | .st r rs,.o ops (o::l),ks,σ,φ=>match QfM ops o (look σ.fr)with
  | some true=>match o.dst with
   | none=>match o.op with
    | .store Tx x y=>match σ.opd x with
     | some p=>match σ.opd y with
      | some v=>match storeA T Tx σ φ r rs p v with
       | some (σ',φ')=>some ⟨.o ops l,ks,σ',φ'⟩
       | none=>none
      | none=>none
     | none=>none
    | _=>none
   | some _=>none
  | _=>none
 | .app rs m,.o ops (o::l),ks,σ,φ=>match QfM ops o (look σ.fr)with
  | some true=>match o.dst with
   | some d=>match o.op with
    | .call c=>match c.callee with
     | .builtin .append=>match c.args.toList with
      | [x,y]=>match c.argTypes.toList with
       | [Tx,Ty]=>match σ.opd x with
        | some p=>match σ.opd y with
         | some v=>match QC0 T n σ φ rs m d Tx Ty p v with
          | some (σ',φ')=>some ⟨.o ops l,ks,σ',φ'⟩
          | none=>none
         | none=>none
        | none=>none
       | _=>none
      | _=>none
     | _=>none
    | _=>none
   | none=>none
  | _=>none
 | .x g,.o ops (o::l),ks,σ,φ=>match QfM ops o (look σ.fr)with
  | some true=>some ⟨.o ops l,ks,g σ,φ∧Stp P C o σ (g σ)⟩
  | _=>none
 | .cm en M N dead ms outs r,.o ops (o::l),ks,σ,φ=>match QfM ops o (look σ.fr)with
  | some true=>match o.dst with
   | some d=>bif Nat.ble (d+1) n then match o.op with
    | .call c=>match QCZ P T σ φ c en with
     | some (f,vs,φ1)=>match cmV P σ φ1 d f vs M N dead ms outs r with
      | some (σ',φ')=>some ⟨.o ops l,ks,σ',φ'⟩
      | none=>none
     | none=>none
    | _=>none
    else none
   | none=>none
  | _=>none
 | .br b,.c (.cond c x y),ks,σ,φ=>match σ.opd c with
  | some (.b t)=>match b with
   | true=>some ⟨.c x,ks,σ,φ∧t=true⟩
   | false=>some ⟨.c y,ks,σ,φ∧t=false⟩
  | _=>none
 | .say t v,pt,ks,σ,φ=>match look σ.fr t with
  | some u=>some ⟨pt,ks,σ.put t v,φ∧u=v⟩
  | none=>none
 | .sayO b ob,pt,ks,σ,φ=>match look σ.hp b with
  | some u=>some ⟨pt,ks,σ.set b ob,φ∧u=ob⟩
  | none=>none
 | .to fr hp,pt,ks,σ,φ=>some ⟨pt,ks,⟨fr,hp⟩,φ∧(QjI σ.fr fr∧QhV σ.hp hp∧St.closed ⟨fr,hp⟩=true)⟩
 | .freeze t us,pt,ks,σ,φ=>match look σ.fr t with
  | some (.own b k)=>match look σ.hp b with
   | some (.arr z rs)=>bif !(Nat.ble 613 b)then some ⟨pt,ks,(σ.kill b).put t (.sl z us),φ∧(k≤rs.length∧rs.take k=us)⟩else none
   | _=>none
  | _=>none
 | .adopt t b z,pt,ks,σ,φ=>match look σ.fr t with
  | some (.lit (.slice none 0 0))=>match look σ.hp b with
   | none=>bif Nat.ble 615 b then none else some ⟨pt,ks,(σ.set b (.arr z [])).put t (.own b 0),φ⟩
   | some _=>none
  | _=>none
 | .denil t ms,pt,ks,σ,φ=>match look σ.fr t with
  | some v=>some ⟨pt,ks,σ.put t (v.denil ms),φ⟩
  | none=>none
 | .denilO b ms,pt,ks,σ,φ=>match look σ.hp b with
  | some (.var cs)=>some ⟨pt,ks,σ.set b (.var (QdZ ms cs)),φ⟩
  | _=>none
 | .ren o o',pt,ks,σ,φ=>bif !(Nat.ble 613 o)&&!(Nat.ble 613 o')&&(look σ.hp o').isNone then some ⟨pt,ks,σ.ren o o',φ⟩else none
 | .kill b,pt,ks,σ,φ=>some ⟨pt,ks,σ.kill b,φ⟩
 | .frz b us ts os,pt,ks,σ,φ=>match look σ.hp b with
  | some (.arr z rs)=>bif !(Nat.ble 613 b)then match Qwd b z rs us σ ts (σ.kill b) True with
   | some (σ1,φ1)=>match QzC b z rs us σ os σ1 φ1 with
    | some (σ2,φ2)=>some ⟨pt,ks,σ2,φ∧φ2⟩
    | none=>none
   | none=>none
   else none
  | _=>none
 | .adoptO p i b z,pt,ks,σ,φ=>match look σ.hp p with
  | some (.var cs)=>match cs[i]? with
   | some (.lit (.slice none 0 0))=>match look σ.hp b with
    | none=>bif Nat.beq p b||Nat.ble 615 b then none else some ⟨pt,ks,(σ.set b (.arr z [])).set p (.var (cs.set i (.own b 0))),φ⟩
    | some _=>none
   | _=>none
  | _=>none
 | .keep ts os,pt,ks,σ,φ=>match QiG σ.fr ts with
  | some fr=>match QiG σ.hp os with
   | some hp=>bif St.closed ⟨fr,hp⟩then some ⟨pt,ks,⟨fr,hp⟩,φ⟩else none
   | none=>none
  | none=>none
 | _,_,_,_,_=>none
def plain (P:Program)(C:Ctx)(T:Tab)(n:Nat):Nat→Pt→List Fr→St→Prop→Option Cfg
 | 0,pt,ks,σ,φ=>some ⟨pt,ks,σ,φ⟩
 | k+1,.o ops (o::l),ks,σ,φ=>match QfM ops o (look σ.fr)with
  | some true=>match op1 P C T n .no none o σ φ with
   | some (σ',φ')=>plain P C T n k (.o ops l) ks σ' φ'
   | none=>none
  | some false=>match o.dst with
   | some d=>bif Nat.ble (d+1) n then plain P C T n k (.o ops l) ks (σ.put d (.lit undef)) φ else none
   | none=>plain P C T n k (.o ops l) ks σ φ
  | none=>none
 | k+1,pt,ks,σ,φ=>match ctl pt ks σ with
  | some (pt',ks')=>plain P C T n k pt' ks' σ φ
  | none=>none
def go (P:Program)(C:Ctx)(T:Tab)(n:Nat):List Dir→Pt→List Fr→St→Prop→Option Cfg
 | [],pt,ks,σ,φ=>some ⟨pt,ks,σ,φ⟩
 | .n k::ds,pt,ks,σ,φ=>match plain P C T n k pt ks σ φ with
  | some ⟨pt',ks',σ',φ'⟩=>go P C T n ds pt' ks' σ' φ'
  | none=>none
 | d::ds,pt,ks,σ,φ=>match QC2 P C T n d pt ks σ φ with
  | some ⟨pt',ks',σ',φ'⟩=>go P C T n ds pt' ks' σ' φ'
  | none=>none
end Go.Vm
namespace Go.Vm
open Go Go.RowKit
section
variable {P:Program}{C:Ctx}{T:Tab}{Q:Exit→St→Prop}{n:Nat}{φ:Nat→Option Blk}{σ:St}{a:Act}{w:World}
def QBd (P:Program)(C:Ctx)(Q:Exit→St→Prop)(pt:Pt)(ks:List Fr)(σ:St)(φ:Prop)(c:Cfg):Prop:=c.φ→φ∧(AK P C Q c.pt c.ks c.σ→AK P C Q pt ks σ)
theorem QpW {φ:Prop}{q:Option Prop}{v:V}{ob:Option Ob}(h:QpV φ q):φ∧Rs.holds ⟨v,ob,q⟩:=by
 cases q with
 | none=>exact⟨h,trivial⟩
 | some p=>exact h
theorem QB2 {pt pt':Pt}{ks ks':List Fr}{σ:St}(h:ctl pt ks σ=some (pt',ks'))(k:AK P C Q pt' ks' σ):AK P C Q pt ks σ:=by
 unfold ctl at h
 split at h
 ·cases h;exact AK.seq k
 ·cases h;exact AK.block k
 ·cases h;exact AK.region k
 ·cases h;exact AK.skip k
 ·cases h;exact AK.label k
 ·cases h;exact AK.exit k
 ·cases h;exact AK.ret k
 ·split at h
  ·rename_i hc;cases h;exact AWp.cond_true hc k
  ·rename_i hc;cases h;exact AWp.cond_false hc k
  cases h
 ·cases h;exact AK.nil k
 ·cases h;exact AK.popSeq k
 ·cases h;exact AK.popBlk k
 ·cases h;exact AK.exSeq k
 ·cases h;exact AK.exCut k
 ·rename_i _ i j ks
  cases hb:Nat.beq i j with
  | true=>rw [hb]at h;cases h;exact AK.exBlk hb k
  | false=>rw [hb]at h;cases h;exact AK.exBlk' hb k
 ·cases h;exact AK.retPop k
 cases h
theorem Qoz {ops:Array Oper}{o:Oper}{f:Nat→Option V}{b:Bool}(h:QfM ops o f=some b):
  (o.guard=none∧b=true)∨∃j t d,o.guard=some (j,t)∧((ops[j]?).bind (·.dst))=some d∧((∃u,f d=some (.b u)∧b=(u==t))∨(f d=some (.lit undef)∧b=false)):=by
 unfold QfM at h
 split at h
 ·rename_i hg;cases h;exact .inl ⟨hg,rfl⟩
 rename_i j t hg
 split at h
 ·rename_i oj hj
  split at h
  ·rename_i d hd
   have hjd:((ops[j]?).bind (·.dst))=some d:=by rw [hj];exact hd
   refine .inr ⟨j,t,d,hg,hjd,?_⟩
   split at h
   ·rename_i hf;cases h;exact .inl ⟨true,hf,by simp⟩
   ·rename_i hf;cases h;exact .inl ⟨false,hf,by simp⟩
   ·rename_i v _ _ hf
    obtain⟨h1,h⟩:=Qag h
    cases h
    exact .inr ⟨by rw [hf,V.isUnd_eq h1],rfl⟩
   cases h
  cases h
 cases h
theorem AL.want {ops:Array Oper}{o:Oper}{l:List Oper}{σ σ':St}{Q:Exit→St→Prop}(h:QfM ops o (look σ.fr)=some true)(hs:Stp P C o σ σ')(k:AL P C ops l σ' Q):AL P C ops (o::l) σ Q:=by
 rcases Qoz h with⟨hg,_⟩|⟨j,t,d,hg,hj,⟨u,hu,hb⟩|⟨_,hb⟩⟩
 ·exact AL.cons hg hs k
 ·have:u=t:=by simpa using hb.symm
  exact AL.consGT hg hj hu this hs k
 cases hb
theorem AL.pass {ops:Array Oper}{o:Oper}{l:List Oper}{σ:St}{Q:Exit→St→Prop}{d:Nat}(h:QfM ops o (look σ.fr)=some false)(hd:o.dst=some d)(hn:Nat.ble (d+1) C.n=true)(k:AL P C ops l (σ.put d (.lit undef)) Q):AL P C ops (o::l) σ Q:=by
 rcases Qoz h with⟨_,hb⟩|⟨j,t,e,hg,hj,⟨u,hu,hb⟩|⟨hu,_⟩⟩
 ·cases hb
 ·have:u=!t:=by cases u<;>cases t<;>first | rfl | cases hb
  exact AL.consNT hg hj hu this hd hn k
 exact AL.consU hg hj hu hd hn k
theorem AL.pass0 {ops:Array Oper}{o:Oper}{l:List Oper}{σ:St}{Q:Exit→St→Prop}(h:QfM ops o (look σ.fr)=some false)(hd:o.dst=none)(k:AL P C ops l σ Q):AL P C ops (o::l) σ Q:=by
 rcases Qoz h with⟨_,hb⟩|⟨j,t,e,hg,hj,⟨u,hu,hb⟩|⟨hu,_⟩⟩
 ·cases hb
 ·have:u=!t:=by cases u<;>cases t<;>first | rfl | cases hb
  exact AL.consNT0 hg hj hu this hd k
 exact AL.consU0 hg hj hu hd k
theorem RR.putDenil {d:Nat}{v:V}{ms:List (Option Nat)}(h:RR C φ (σ.put d v) a w):RR C φ (σ.put d (v.denil ms)) a w:=by
 obtain⟨x,hx,hrep⟩:=h.frame d v (Qu _ _ _)
 refine(h.say hx (hrep.denil (ms:=ms))).le fun t u hu=>?_
 by_cases e:d=t
 ·subst e
  have hu:look ((d,v.denil ms)::σ.fr) d=some u:=hu
  rw [Qu]at hu
  show look ((d,v.denil ms)::_) d=some u
  rw [Qu];exact hu
 have hu:look ((d,v.denil ms)::σ.fr) t=some u:=hu
 rw [Qr _ _ e]at hu
 show look ((d,v.denil ms)::(d,v)::σ.fr) t=some u
 rw [Qr _ _ e,Qr _ _ e];exact hu
theorem Stp.denil {o:Oper}{σ σ':St}{d:Nat}{v:V}{ms:List (Option Nat)}(h:Stp P C o σ (σ'.put d v)):Stp P C o σ (σ'.put d (v.denil ms)):=
 fun a w hR next Q hn=>h a w hR next Q fun a' w' ⟨φ,hr⟩=>hn a' w' ⟨φ,hr.putDenil⟩
theorem Quk {h:Qkt}{sv:Option (List (Option Nat)×V)}{o:Oper}{σ σ':St}{φ φ':Prop}(ok:QdO P T)(hN:Qfi P C n)(e:op1 P C T n h sv o σ φ=some (σ',φ'))(hφ:φ'):φ∧Stp P C o σ σ':=by
 have hn:=hN.n
 unfold op1 at e
 split at e
 ·rename_i d hd
  replace e:=Qag e;obtain⟨e1,e⟩:=e
  rw [←hn]at e1
  split at e
  ·rename_i v q hev
   have key:∀q':Prop,QpV φ q∧q'→φ∧Stp P C o σ (σ.put d v):=fun q' h=>by
    obtain⟨a,b⟩:=QpW h.1
    exact⟨a,Quj ok hd e1 hN.g (fun _ _ h=>h) (fun _ _ h=>h) hev b (fun h=>by cases h)⟩
   split at e
   ·cases e;exact key True ⟨hφ,trivial⟩
   cases e;obtain⟨a,b⟩:=hφ;subst b;obtain⟨a1,a2⟩:=key True ⟨a,trivial⟩;exact⟨a1,a2.denil⟩
  ·rename_i v ob q hev
   split at e
   ·rename_i hl
    have key:∀q':Prop,QpV φ q∧q'→φ∧Stp P C o σ ((σ.set d ob).put d v):=fun q' h=>by
     obtain⟨a,b⟩:=QpW h.1
     exact⟨a,Quj ok hd e1 hN.g (fun _ _ h=>h) (fun _ _ h=>h) hev b (fun _=>hl)⟩
    split at e
    ·cases e;exact key True ⟨hφ,trivial⟩
    cases e;obtain⟨a,b⟩:=hφ;subst b;obtain⟨a1,a2⟩:=key True ⟨a,trivial⟩;exact⟨a1,a2.denil⟩
   cases e
  cases e
 rename_i hd
 split at e
 ·rename_i Tx x y ho
  split at e
  ·rename_i p hp
   split at e
   ·rename_i v hv
    unfold QB1 at e
    split at e
    ·rename_i b i off v
     split at e
     ·rename_i cs hb
      split at e
      ·split at e
       ·rename_i k hk
        replace e:=Qag e;obtain⟨e2,e⟩:=e
        cases e
        simp only [Qz]at e2
        obtain⟨⟨⟨a1,a2⟩,a3⟩,a4⟩:=e2
        exact⟨hφ,Stp.storeL ho hd hp hb hv (V.isV_or a1) (ok.sz hk) (QaM a2) a3 a4 rfl⟩
       cases e
      cases e
     cases e
    cases e
   cases e
  cases e
 cases e
theorem QBe {o:Oper}{σ σ':St}{φ φ':Prop}{rs':List (List V)}{m d Tx Ty:Nat}{x y:Operand}{p v:V}(ok:QdO P T)(hN:Qfi P C n)(ho:o.op=.call { callee:=.builtin .append,args:=#[x,y],argTypes:=#[Tx,Ty] })(hd:o.dst=some d)
  (hx:σ.opd x=some p) (hy:σ.opd y=some v) (e:QC0 T n σ φ rs' m d Tx Ty p v=some (σ',φ')) (hφ:φ'):φ∧Stp P C o σ σ':=by
 have hn:=hN.n
 unfold QC0 at e
 split at e
 ·rename_i b k y'
  split at e
  ·rename_i z rs hb
   split at e
   ·rename_i et z' by_ hes
    split at e
    ·rename_i zs hz
     replace e:=Qag e;obtain⟨e1,e⟩:=e
     simp only [Qz,Qfg]at e1
     obtain⟨⟨⟨⟨⟨⟨a1,a2⟩,a3⟩,a4⟩,a5⟩,a6⟩,a7⟩:=e1
     have a4:=QaM a4;subst a4
     have a5:=QaM a5
     have a6:z≠0:=fun h0=>by rw [h0]at a6;cases a6
     rw [←hn]at a2
     obtain⟨⟨e2,z2,by2⟩,hU⟩:∃q,Qaz P Ty=some q:=by
      cases hl:look T.es Ty with
      | none=>rw [hl]at a1;cases a1
      | some q=>exact⟨q,ok.es hl⟩
     split at e
     ·rename_i z'' us
      replace e:=Qag e;obtain⟨e3,e⟩:=e
      have:=QaM e3;subst this
      cases e
      obtain⟨h0,h1,h2,h3,h4⟩:=hφ
      exact⟨h0,Stp.appS ho hd a2 hx hb a3 h1 (ok.es hes) hU (ok.zv hz) a5 a6 a7 h2 hy h3 h4⟩
     ·rename_i b' k'
      split at e
      ·rename_i z'' us hb'
       replace e:=Qag e;obtain⟨e3,e⟩:=e
       have:=QaM e3;subst this
       cases e
       obtain⟨h0,h1,h2,h3,h4,h5⟩:=hφ
       exact⟨h0,Stp.appO ho hd a2 hx hb a3 h1 (ok.es hes) hU (ok.zv hz) a5 a6 a7 h2 hy hb' h3 h4 h5⟩
      cases e
     ·cases e
      obtain⟨h0,h1,h2⟩:=hφ
      exact⟨h0,Stp.appN ho hd a2 hx hb a3 h1 (ok.es hes) hU (ok.zv hz) a5 a6 a7 h2 hy⟩
     cases e
    cases e
   cases e
  cases e
 cases e
theorem QzD {o:Oper}{σ σ':St}{φ φ':Prop}{Tx:TypeId}{x y:Operand}{p v:V}{r:List V}{rs':List (List V)}(ok:QdO P T)(ho:o.op=.store Tx x y)(hd:o.dst=none)(hx:σ.opd x=some p)(hy:σ.opd y=some v)
  (e:storeA T Tx σ φ r rs' p v=some (σ',φ')) (hφ:φ'):φ∧Stp P C o σ σ':=by
 unfold storeA at e
 split at e
 ·rename_i b i off v
  split at e
  ·rename_i z rs hb
   split at e
   ·rename_i k hk
    replace e:=Qag e;obtain⟨e2,e⟩:=e
    cases e
    simp only [Qz]at e2
    obtain⟨⟨⟨⟨a1,a2⟩,a3⟩,a4⟩,a5⟩:=e2
    exact⟨hφ.1,Stp.storeA ho hd hx hb hφ.2.1 hy (V.isV_or a1) (ok.sz hk) (QaM a2) a3 a4 a5 hφ.2.2⟩
   cases e
  cases e
 cases e
theorem R.say {σ:St}{t:Nat}{v:V}(h:∃u,look σ.fr t=some u∧u=v){a:Act}{w:World}(hR:R C σ a w):R C (σ.put t v) a w:=by
 obtain⟨u,hu,rfl⟩:=h
 obtain⟨φ,hr⟩:=hR
 obtain⟨x,hx,hrep⟩:=hr.frame t _ hu
 exact⟨φ,hr.say hx hrep⟩
theorem RR.sayOb (h:RR C φ σ a w){b:Nat}{ob ob':Ob}(hb:look σ.hp b=some ob)(hs:∀B,φ b=some B→QbZ φ (Imm C φ w) w B ob→QbZ φ (Imm C φ w) w B ob')(he:ob=ob'∨¬ob.Nil):RR C φ (σ.set b ob') a w:=by
 rcases he with rfl | hne
 ·refine⟨h.os,h.tape,h.output,h.size,h.kept,h.inj,fun o B hB=>?_,h.lt,h.new,h.stay.set hb,h.tmps,h.defers,h.frame,fun o ob'' ho=>?_⟩
  ·by_cases e:o=b
   ·subst e;exact⟨_,σ.look_set_same _ _⟩
   rw [σ.look_set_other _ (Ne.symm e)];exact h.dom o B hB
  by_cases e:o=b
  ·subst e;rw [σ.look_set_same]at ho;cases ho;exact h.heap _ _ hb
  rw [σ.look_set_other _ (Ne.symm e)]at ho;exact h.heap _ _ ho
 exact h.say' hb hs hne
theorem R.sayO {σ:St}{b:Nat}{ob:Ob}(h:∃u,look σ.hp b=some u∧u=ob){a:Act}{w:World}(hR:R C σ a w):R C (σ.set b ob) a w:=by
 obtain⟨u,hu,rfl⟩:=h
 obtain⟨φ,hr⟩:=hR
 exact⟨φ,hr.sayOb hu (fun _ _ h=>h) (.inl rfl)⟩
theorem R.denil {σ:St}{t:Nat}{v:V}{ms:List (Option Nat)}(h:look σ.fr t=some v){a:Act}{w:World}(hR:R C σ a w):R C (σ.put t (v.denil ms)) a w:=by
 obtain⟨φ,hr⟩:=hR
 obtain⟨x,hx,hrep⟩:=hr.frame t _ h
 exact⟨φ,hr.say hx hrep.denil⟩
theorem R.denilO {σ:St}{b:Nat}{cs:List V}{ms:List (Option Nat)}(h:look σ.hp b=some (.var cs)){a:Act}{w:World}(hR:R C σ a w):R C (σ.set b (.var (QdZ ms cs))) a w:=by
 obtain⟨φ,hr⟩:=hR
 refine⟨φ,hr.sayOb h (fun B hB hrep=>?_) (.inr fun e=>e.elim)⟩
 obtain⟨xs,E,h1,h2,h0,h3⟩:=hrep
 refine⟨xs,E,h1,by rw [QsP];exact h2,h0,fun j x v hx hv=>?_⟩
 obtain⟨m,v',hv',rfl⟩:=QpQ _ _ j v hv
 exact(h3 j x v' hx hv').den1
section
variable {hp:List (Nat×Ob)}{g:Bool}{bad:List Nat}{m:Nat→Nat→Prop}{bk:Nat→Option Nat}
theorem Qul (hm:∀a b,bk a=some b→m a b):∀(v:V) {u:V},trC bk v=some u→Vw hp g false bad m v u
 | .own a n,u,h=>by rw [trC]at h;split at h<;>first | (rename_i b hb;cases h;exact .own _ _ _ (hm _ _ hb)) | cases h
 | .loc a i d,u,h=>by rw [trC]at h;split at h<;>first | (rename_i b hb;cases h;exact .loc _ _ _ _ (hm _ _ hb)) | cases h
 | .map a,u,h=>by rw [trC]at h;split at h<;>first | (rename_i b hb;cases h;exact .map _ _ (hm _ _ hb)) | cases h
 | .ifc t x,u,h=>by
  rw [trC]at h
  split at h
  ·rename_i y hy;cases h;exact .ifc _ _ _ (Qul hm x hy)
  cases h
 | .b _,u,h | .i _ _,u,h | .s _,u,h | .sl _ _,u,h | .ro _,u,h | .agg _,u,h | .tup _,u,h | .clo _ _ _,u,h | .lit _,u,h | .J,u,h=>by
  have h:=Qag (show(bif V.datA _ then some _ else none)=some u from h)
  obtain⟨h1,h2⟩:=h
  cases h2
  exact .dat _ h1 (fun e=>by cases e)
theorem QoA (hm:∀a b,bk a=some b→m a b):∀{vs us:List V},trL bk vs=some us→vs.length=us.length∧∀(j:Nat) c u,vs[j]? = some c→us[j]? = some u→Vw hp g false bad m c u:=by
 intro vs
 induction vs with
 | nil=>intro us h;cases h;simp
 | cons v vs ih=>
  intro us h
  rw [trL]at h
  split at h
  ·rename_i u hu
   split at h
   ·rename_i us' hus
    cases h
    obtain⟨a,b⟩:=ih hus
    refine⟨by simp [a],fun j c w hc hw=>?_⟩
    cases j with
    | zero=>simp at hc hw;subst hc;subst hw;exact Qul hm _ hu
    | succ j=>simp at hc hw;exact b j c w hc hw
   cases h
  cases h
theorem Qku (hm:∀a b,bk a=some b→m a b){v u:V}(h:trV bk v=some u):Vw hp g false bad m v u:=by
 unfold trV at h
 split at h
 ·rename_i cs
  cases hd:(V.agg cs).datA with
  | true=>rw [hd]at h;cases h;exact .dat _ hd (fun e=>by cases e)
  | false=>
   rw [hd]at h;dsimp only [cond_false]at h
   split at h
   ·rename_i us hus;cases h;obtain⟨a,b⟩:=QoA hm hus;exact .agg _ _ a b
   cases h
 ·rename_i cs
  cases hd:(V.tup cs).datA with
  | true=>rw [hd]at h;cases h;exact .dat _ hd (fun e=>by cases e)
  | false=>
   rw [hd]at h;dsimp only [cond_false]at h
   split at h
   ·rename_i us hus;cases h;obtain⟨a,b⟩:=QoA hm hus;exact .tup _ _ a b
   cases h
 ·split at h
  ·rename_i us hus
   split at h
   ·rename_i ds hds;cases h;obtain⟨a,b⟩:=QoA hm hus;obtain⟨a',b'⟩:=QoA hm hds;exact .clo _ _ _ _ _ a a' b b'
   cases h
  cases h
 exact Qul hm _ h
theorem Qw2 (hm:∀a b,bk a=some b→m a b):∀{vs us:List V},QzA bk vs=some us→vs.length=us.length∧∀(j:Nat) c u,vs[j]? = some c→us[j]? = some u→Vw hp g false bad m c u:=by
 intro vs
 induction vs with
 | nil=>intro us h;cases h;simp
 | cons v vs ih=>
  intro us h
  rw [QzA]at h
  split at h
  ·rename_i u hu
   split at h
   ·rename_i us' hus
    cases h
    obtain⟨a,b⟩:=ih hus
    refine⟨by simp [a],fun j c w hc hw=>?_⟩
    cases j with
    | zero=>simp at hc hw;subst hc;subst hw;exact Qku hm hu
    | succ j=>simp at hc hw;exact b j c w hc hw
   cases h
  cases h
theorem QB3 (hm:∀a b,bk a=some b→m a b){ob ob':Ob}(h:trO bk ob=some ob'):ObW hp g false bad m ob ob':=by
 unfold trO at h
 split at h
 ·split at h
  ·rename_i us hus;cases h;obtain⟨a,b⟩:=Qw2 hm hus;exact .var _ _ a b
  cases h
 ·split at h
  ·rename_i us hus;cases h;obtain⟨a,b⟩:=Qw2 hm hus;exact .lp _ _ _ _ _ a b
  cases h
 ·cases h;exact .arr _ _ (fun e=>by cases e)
 ·cases h;exact .map _ (fun e=>by cases e)
 ·cases h;exact .grp _ _ _ rfl
 ·cases h;exact .tbl _ _ _ rfl
 cases h
theorem Qhz (hm:∀a b,bk a=some b→m a b):∀{ms:List Qgh} {vs us:List V},Qms bk ms vs=some us→Vws hp g false bad m vs us:=by
 intro ms
 induction ms with
 | nil=>intro vs us h;cases vs with
  | nil=>cases h;exact .nil
  | cons=>cases h
 | cons md ms ih=>
  intro vs us h
  cases vs with
  | nil=>cases h
  | cons v vs=>
   rw [Qms]at h
   split at h
   ·rename_i u hu
    split at h
    ·rename_i us' hus
     cases h
     refine .cons ?_ (ih hus)
     unfold QEw at hu
     split at hu
     ·cases hu;exact .nil _
     ·exact Qku hm hu
     ·rename_i n cs
      split at hu
      ·rename_i us2 hus2
       split at hu
       ·rename_i hj
        cases hu
        obtain⟨a,b⟩:=QoA hm hus2
        refine .agg _ _ (by rw [←a];simp) fun j c w hc hw=>?_
        by_cases e:j=n
        ·subst e;rw [hj]at hw;cases hw;exact .forget _
        exact b j c w (by rw [List.getElem?_set,if_neg (Ne.symm e)];exact hc) hw
       cases hu
      cases hu
     cases hu
    cases h
   cases h
theorem QcD (hm:∀a b,bk a=some b→m a b){src:List (Nat×Ob)}:∀{M:List (Nat×Nat)} {l:List (Nat×Ob)},Qic bk (look src) M=some l→QlN hp g false bad m src M l:=by
 intro M
 induction M with
 | nil=>intro l h;cases h;exact .nil
 | cons p M ih=>
  intro l h
  obtain⟨d,s⟩:=p
  rw [Qic]at h
  split at h
  ·rename_i ob hob
   split at h
   ·rename_i ob' hob'
    split at h
    ·rename_i l' hl;cases h;exact .cons hob (QB3 hm hob') (ih hl)
    cases h
   cases h
  cases h
theorem Qfj : ∀{M:List (Nat×Nat)} {a b:Nat},bkM M a=some b→(b,a)∈M:=by
 intro M
 induction M with
 | nil=>intro a b h;cases h
 | cons p M ih=>
  intro a b h
  obtain⟨b',a'⟩:=p
  rw [bkM]at h
  cases hb:Nat.beq a' a with
  | true=>rw [hb]at h;cases h;rw [QaM hb];exact Q5
  | false=>rw [hb]at h;exact Qab _ (ih h)
end
theorem QBf {o:Oper}{σ:St}{φ φ':Prop}{c:Call}{en:Ent}{f:Nat}{vs:List V}(ok:QdO P T)(ho:o.op=.call c)(e:QCZ P T σ φ c en=some (f,vs,φ'))(hφ:φ'):φ∧QbW P C o σ f vs:=by
 obtain⟨ce,ags,ts⟩:=c
 unfold QCZ at e
 split at e
 ·split at e
  ·rename_i f' hc
   dsimp only at hc;subst hc
   replace e:=Qag e;obtain⟨e1,e⟩:=e
   split at e
   ·rename_i vs' hv;cases e;exact⟨hφ,QbW.fn ho (ok.en e1) (QeK (fun _ _ h=>h) hv)⟩
   cases e
  cases e
 ·split at e
  ·rename_i x hc
   dsimp only at hc;subst hc
   split at e
   ·rename_i f' fs cs hx
    replace e:=Qag e;obtain⟨e1,e⟩:=e
    split at e
    ·rename_i vs' hv;cases e;exact⟨hφ,QbW.clo ho hx (ok.en e1) (QeK (fun _ _ h=>h) hv)⟩
    cases e
   cases e
  cases e
 ·split at e
  ·rename_i x name hc
   dsimp only at hc;subst hc
   split at e
   ·rename_i t u hx
    replace e:=Qag e;obtain⟨e1,e⟩:=e
    split at e
    ·rename_i vs' hv;cases e;exact⟨hφ.1,QbW.meth (r:=u) ho hx hφ.2 (ok.en e1) (QeK (fun _ _ h=>h) hv)⟩
    cases e
   cases e
  cases e
 split at e
 ·rename_i x name hc
  dsimp only at hc;subst hc
  split at e
  ·rename_i t b off hx
   split at e
   ·rename_i cs hb
    split at e
    ·rename_i r hr0
     replace e:=Qag e;obtain⟨e1,e⟩:=e
     split at e
     ·rename_i vs' hv;cases e;exact⟨hφ.1,QbW.methV ho hx hφ.2.1 hφ.2.2.1 hφ.2.2.2 hb hr0 (ok.en e1) (QeK (fun _ _ h=>h) hv)⟩
     cases e
    cases e
   cases e
  cases e
 cases e
theorem QB4 {o:Oper}{σ σ':St}{φ φ':Prop}{d f:Nat}{vs:List V}{M N:List (Nat×Nat)}{dead:List Nat}{ms:List Qgh}{outs:List (Nat×Ob)}{r:V}(hE:QbW P C o σ f vs)(hd:o.dst=some d)(hn:Nat.ble (d+1) C.n=true)(hpg:C.pg P)
  (e:cmV P σ φ d f vs M N dead ms outs r=some (σ',φ')) (hφ:φ'):φ∧Stp P C o σ σ':=by
 unfold cmV at e
 replace e:=Qag e;obtain⟨e1,e⟩:=e
 simp only [Qz]at e1
 obtain⟨⟨h1,h2⟩,h3⟩:=e1
 have h2:=Qcb.1 h2
 have h3:=Qcb.1 h3
 have inj:Qhy M=true∧Qhy N=true:=by
  simp only [Qdf,Qz]at h1
  exact⟨h1.1.1.1,h1.1.1.2⟩
 have mM:∀a b,bkM M a=some b→look M b=some a:=fun a b h=>Qbl inj.1 (Qfj h) h2
 have mN:∀a b,bkM N a=some b→look N b=some a:=fun a b h=>Qbl inj.2 (Qfj h) h3
 split at e
 ·rename_i us hus
  split at e
  ·rename_i hsC hC
   split at e
   ·rename_i hsN hN
    split at e
    ·rename_i r' hr
     cases e
     exact⟨hφ.1,Stp.callM (g:=false) hE hd hn hpg h1 h2 (Qhz mM hus) (QcD mM hC) hφ.2 (QcD mN hN) (Qku mN hr)⟩
    cases e
   cases e
  cases e
 cases e
theorem QC3 {l:List (Nat×V)}:∀{ts:List Nat} {r:List (Nat×V)},QiG l ts=some r→QjI l r:=by
 intro ts
 induction ts with
 | nil=>intro r h;cases h;trivial
 | cons t ts ih=>
  intro r h
  rw [QiG]at h
  split at h
  ·rename_i v hv
   split at h
   ·rename_i r' hr;cases h;exact⟨hv,ih hr⟩
   cases h
  cases h
theorem QC4 {l:List (Nat×Ob)}:∀{ts:List Nat} {r:List (Nat×Ob)},QiG l ts=some r→QhV l r:=by
 intro ts
 induction ts with
 | nil=>intro r h;cases h;trivial
 | cons t ts ih=>
  intro r h
  rw [QiG]at h
  split at h
  ·rename_i v hv
   split at h
   ·rename_i r' hr;cases h;exact⟨hv,ih hr⟩
   cases h
  cases h
theorem RR.thaw (hr:RR C φ σ a w){b n z:Nat}{rs us:List (List V)}(hp:Nat.ble 613 b=false)(hb:look σ.hp b=some (.arr z rs)){x:Value}(hrep:Rep φ (Imm C φ w) w x (.own b n))(hle:n≤rs.length)(hu:rs.take n=us):
  Rep (del φ b) (Imm C (del φ b) w) w x (.sl z us):=by
 subst hu
 refine .dat ?_
 rcases hrep.own_inv with⟨rfl,rfl⟩|⟨B,hB,hcap,rfl⟩
 ·simp only [List.take_zero];exact .sl0 _ _ _
 obtain⟨rfl,hrl,hok,cs,E,h1,h2,h3⟩:=hr.block hB hb
 have hIb:Imm C (del φ b) w B.b:=by
  refine⟨(hr.lt b B _ hB B.self).1,fun hlt=>?_,fun o B' hB' e=>?_⟩
  ·have hb':b<613:=by
    rcases QdB b 613 with h | h
    ·exact h
    rw [QqX h]at hp;cases hp
   have:=hr.new b B _ hB B.self hb';omega
  obtain⟨h4,h5⟩:=Qb9 hB'
  exact h4 (hr.inj o b B' B _ h5 hB e B.self)
 refine .sl B.b B.off n B.cap B.z _ (fun j=>cs.getD (B.off+j) undef) hIb (by simp;omega) hcap (fun r hr'=>hok r (QgS hr')) (fun j hj=>?_) (fun i r hi j v hj=>?_)
 ·have hle2:n*B.z≤B.cap*B.z:=Qb3 _ hcap
  have:B.off+j<cs.size:=by omega
  simp [World.cell?,h1,Array.getD,this]
 have hi':rs[i]? = some r:=by
  rw [Qcn]at hi
  by_cases hin:i<n
  ·rwa [if_pos hin]at hi
  rw [if_neg hin]at hi;simp at hi
 obtain⟨y,hy,hd⟩:=h3 i r hi' j v hj
 have:cs.getD (B.off+(i*B.z+j)) undef=y:=by simp [QrE,hy]
 rw [this]
 exact hd.mono fun k hk=>⟨hk.of_del,rfl⟩
section
variable {b z:Nat}{rs us:List (List V)}{σ0:St}
theorem RR.frzC (hr:RR C φ σ a w)(hp:Nat.ble 613 b=false)(hb:look σ.hp b=some (.arr z rs)){x:Value}{v:V}(h:Rep φ (Imm C φ w) w x v)(hq:QzB b rs us v)(hf:v.freeC b=true∨∃k,v=.own b k):
  Rep (del φ b) (Imm C (del φ b) w) w x (v.frzC b z us):=by
 rcases hf with hf | ⟨k,rfl⟩
 ·have:v.frzC b z us=v:=by
   unfold V.frzC
   split
   ·rename_i o k
    have:Nat.beq o b=false:=by simpa [V.freeC,V.freeN] using hf
    rw [this];rfl
   rfl
  rw [this]
  exact Rep.freeC (fun o B ho hB=>by rw [Qef ho];exact hB) (fun k hk=>⟨hk.of_del,rfl⟩) h hf
 have e:Nat.beq b b=true:=Nat.beq_refl b
 simp only [QzB,e,cond_true]at hq
 simp only [V.frzC,e,cond_true]
 exact hr.thaw hp hb h hq.1 hq.2
theorem Qyw {cs:List V}(h:QsY b rs us cs):∀(j:Nat) v,cs[j]? = some v→QzB b rs us v:=by
 induction cs with
 | nil=>intro j v hj;simp at hj
 | cons c cs ih=>
  intro j v hj
  have h2:QsY b rs us cs:=by
   unfold QsY at h
   split at h
   ·rename_i e;cases e
   ·rename_i e;cases e;exact h.2
   rename_i e;cases e;exact h
  cases j with
  | zero=>
   simp at hj;subst hj
   cases c with
   | own o k=>exact h.1
   | _=>trivial
  | succ j=>exact ih h2 j v (by simpa using hj)
end
section
variable {b z:Nat}{rs us:List (List V)}{σ0:St}
theorem QzE {v:V}(h:(v.freeC b||v.isOwn b)=true):v.freeC b=true∨∃k,v=.own b k:=by
 rw [QdN]at h
 rcases h with h | h
 ·exact .inl h
 unfold V.isOwn at h
 split at h
 ·rename_i o k;rw [QaM h];exact .inr ⟨k,rfl⟩
 cases h
theorem RR.frzV (hr:RR C φ σ0 a w)(hp:Nat.ble 613 b=false)(hb:look σ0.hp b=some (.arr z rs)){x:Value}{v:V}(h:Rep φ (Imm C φ w) w x v)(hq:QC1 b rs us v)(hf:v.frzB b=true):
  Rep (del φ b) (Imm C (del φ b) w) w x (v.frz b z us):=by
 unfold V.frz
 unfold QC1 at hq
 unfold V.frzB at hf
 split at hq
 ·rename_i cs
  obtain⟨xs,rfl,hs,hc⟩:=h.agg_inv
  refine .agg xs _ (by simpa using hs) fun j y u hy hu=>?_
  rw [Qan]at hu
  obtain⟨c,hcj,rfl⟩:=Qaq.1 hu
  dsimp only at hf
  rw [Qac]at hf
  exact hr.frzC hp hb (hc j y c hy hcj) (Qyw hq j c hcj) (QzE (hf c (QaL hcj)))
 rename_i hne
 have hf':(v.freeC b||v.isOwn b)=true:=by
  split at hf
  ·exact absurd rfl (hne _)
  exact hf
 exact hr.frzC hp hb h hq (QzE hf')
theorem QBh (hr:RR C φ σ0 a w)(hp:Nat.ble 613 b=false)(hb:look σ0.hp b=some (.arr z rs)):∀{ts:List Nat} {σ σ':St} {ψ ψ':Prop},Qwd b z rs us σ0 ts σ ψ=some (σ',ψ')→ψ'→ψ∧(RR C (del φ b) σ a w→RR C (del φ b) σ' a w):=by
 intro ts
 induction ts with
 | nil=>intro σ σ' ψ ψ' h h';cases h;exact⟨h',id⟩
 | cons t ts ih=>
  intro σ σ' ψ ψ' h h'
  rw [Qwd]at h
  split at h
  ·rename_i v hv
   replace h:=Qag h;obtain⟨h0,h⟩:=h
   obtain⟨⟨h1,h2⟩,h3⟩:=ih h h'
   refine⟨h1,fun k=>h3 ?_⟩
   obtain⟨x,hx,hrep⟩:=hr.frame t v hv
   exact k.say hx (hr.frzV hp hb hrep h2 h0)
  cases h
theorem QBi (hr:RR C φ σ0 a w)(hp:Nat.ble 613 b=false)(hb:look σ0.hp b=some (.arr z rs)):∀{os:List Nat} {σ σ':St} {ψ ψ':Prop},QzC b z rs us σ0 os σ ψ=some (σ',ψ')→ψ'→ψ∧(RR C (del φ b) σ a w→(∀p cs ob,look σ0.hp p=some (.var cs)→look σ.hp p=some ob→¬ob.Nil)→RR C (del φ b) σ' a w):=by
 intro os
 induction os with
 | nil=>intro σ σ' ψ ψ' h h';cases h;exact⟨h',fun k _=>k⟩
 | cons p ps ih=>
  intro σ σ' ψ ψ' h h'
  rw [QzC]at h
  split at h
  ·rename_i cs hcs
   replace h:=Qag h;obtain⟨h0,h⟩:=h
   simp only [Qz,Qfg]at h0
   obtain⟨⟨g1,g2⟩,g3⟩:=h0
   obtain⟨⟨h1,h2⟩,h3⟩:=ih h h'
   refine⟨h1,fun k hv=>h3 ?_ ?_⟩
   ·have hne:p≠b:=fun e=>by subst e;rw [Nat.beq_refl]at g1;cases g1
    obtain⟨ob,hob⟩:=Option.isSome_iff_exists.1 g3
    refine k.sayOb hob (fun B hB _=>?_) (.inr (hv p cs ob hcs hob))
    obtain⟨_,hB'⟩:=Qb9 hB
    rcases hr.heap p _ hcs with⟨B',hB'',hrep⟩|⟨hn,_⟩
    ·rw [hB']at hB'';cases hB''
     obtain⟨xs,E,e1,e2,e0,e3⟩:=hrep
     refine⟨xs,E,e1,by simpa using e2,e0,fun j x v hx hv'=>?_⟩
     rw [Qan]at hv'
     obtain⟨c,hcj,rfl⟩:=Qaq.1 hv'
     rw [Qac]at g2
     exact hr.frzC hp hb (e3 j x c hx hcj) (Qyw h2 j c hcj) (QzE (g2 c (QaL hcj)))
    rw [hn]at hB';cases hB'
   intro p' cs' ob' e1 e2 e3
   by_cases e:p=p'
   ·subst e;rw [St.look_set_same]at e2;cases e2;exact e3.elim
   rw [St.look_set_other _ _ e]at e2;exact hv p' cs' ob' e1 e2 e3
  cases h
end
theorem R.frz {b z:Nat}{rs us:List (List V)}{σ σ1 σ2:St}{ts os:List Nat}{φ1 φ2:Prop}(hp:Nat.ble 613 b=false)(hb:look σ.hp b=some (.arr z rs))(h1:Qwd b z rs us σ ts (σ.kill b) True=some (σ1,φ1))(h2:QzC b z rs us σ os σ1 φ1=some (σ2,φ2))(hφ:φ2)
  {a:Act} {w:World} (hR:R C σ a w):R C σ2 a w:=by
 obtain⟨φ,hr⟩:=hR
 obtain⟨e1,e2⟩:=QBi hr hp hb h2 hφ
 obtain⟨_,e3⟩:=QBh hr hp hb h1 e1
 refine⟨_,e2 (e3 (hr.kill b)) fun p cs ob g1 g2 g3=>?_⟩
 have key:∀{ts:List Nat} {σ' σ'':St} {ψ ψ':Prop},Qwd b z rs us σ ts σ' ψ=some (σ'',ψ')→σ''.hp=σ'.hp:=by
  intro ts
  induction ts with
  | nil=>intro σ' σ'' ψ ψ' h;cases h;rfl
  | cons t ts ih=>
   intro σ' σ'' ψ ψ' h
   rw [Qwd]at h
   split at h
   ·replace h:=Qag h;obtain⟨_,h⟩:=h
    rw [ih h];rfl
   cases h
 rw [key h1]at g2
 obtain⟨_,ob',h5,h6⟩:=QcX _ _ _ g2
 rw [g1]at h5;cases h5
 subst h6;exact g3.elim
theorem R.adoptO {σ:St}{p i b z:Nat}{cs:List V}(hpb:Nat.beq p b=false)(hp:look σ.hp p=some (.var cs))(hi:cs[i]? = some (.lit (.slice none 0 0)))(hlt:b<615)(hb:look σ.hp b=none){a:Act}{w:World}(hR:R C σ a w):
  R C ((σ.set b (.arr z [])).set p (.var (cs.set i (.own b 0)))) a w:=by
 obtain⟨φ,hr⟩:=hR
 have hne:b≠p:=fun e=>by subst e;rw [Nat.beq_refl]at hpb;cases hpb
 have h1:=hr.setNil (z:=z) hlt hb
 have hp':look (σ.set b (.arr z [])).hp p=some (.var cs):=by rw [St.look_set_other _ _ hne];exact hp
 refine⟨φ,h1.sayOb hp' (fun B hB hrep=>?_) (.inr fun e=>e.elim)⟩
 obtain⟨xs,E,e1,e2,e0,e3⟩:=hrep
 refine⟨xs,E,e1,by simpa using e2,e0,fun j x v hx hv=>?_⟩
 rw [List.getElem?_set]at hv
 split at hv
 ·rename_i hij;subst hij
  split at hv
  ·cases hv
   have:=e3 i x _ hx hi
   rw [this.lit_inv];exact .own0 b
  cases hv
 exact e3 j x v hx hv
theorem QBj {d:Dir}{pt:Pt}{ks:List Fr}{σ:St}{φ:Prop}{c:Cfg}(ok:QdO P T)(hN:Qfi P C n)(e:QC2 P C T n d pt ks σ φ=some c):QBd P C Q pt ks σ φ c:=by
 have hn:=hN.n
 unfold QC2 at e
 split at e
 ·split at e
  ·rename_i hw
   split at e
   ·rename_i hs;cases e;exact fun hφ=>let ⟨a,b⟩:=Quk ok hN hs hφ;⟨a,fun k=>AL.want hw b k⟩
   cases e
  cases e
 ·split at e
  ·rename_i hw
   split at e
   ·rename_i hs;cases e;exact fun hφ=>let ⟨a,b⟩:=Quk ok hN hs hφ;⟨a,fun k=>AL.want hw b k⟩
   cases e
  cases e
 ·split at e
  ·rename_i hw
   split at e
   ·rename_i hd
    split at e
    ·rename_i ho
     split at e
     ·rename_i hp
      split at e
      ·rename_i hv
       split at e
       ·rename_i hs;cases e;exact fun hφ=>let ⟨a,b⟩:=QzD ok ho hd hp hv hs hφ;⟨a,fun k=>AL.want hw b k⟩
       cases e
      cases e
     cases e
    cases e
   cases e
  cases e
 ·split at e
  ·rename_i hw
   split at e
   ·rename_i hd
    split at e
    ·rename_i cl ho
     obtain⟨ce,ags,ts⟩:=cl
     split at e
     ·rename_i hce
      dsimp only at hce e;subst hce
      split at e
      ·rename_i x y hxy
       split at e
       ·rename_i Tx Ty hT
        split at e
        ·rename_i p hp
         split at e
         ·rename_i v hv
          split at e
          ·rename_i hs
           have ea:ags=#[x,y]:=by rw [←Qua (xs:=ags),hxy]
           have et:ts=#[Tx,Ty]:=by rw [←Qua (xs:=ts),hT]
           subst ea;subst et
           cases e;exact fun hφ=>let ⟨a,b⟩:=QBe ok hN ho hd hp hv hs hφ;⟨a,fun k=>AL.want hw b k⟩
          cases e
         cases e
        cases e
       cases e
      cases e
     cases e
    cases e
   cases e
  cases e
 ·split at e
  ·rename_i hw
   cases e;exact fun hφ=>⟨hφ.1,fun k=>AL.want hw hφ.2 k⟩
  cases e
 ·split at e
  ·rename_i hw
   split at e
   ·rename_i d hd
    replace e:=Qag e;obtain⟨e1,e⟩:=e
    rw [←hn]at e1
    split at e
    ·rename_i cl ho
     split at e
     ·rename_i f vs φ1 he
      split at e
      ·rename_i hs
       cases e
       refine fun hφ=>?_
       have h0:φ1:=by
        have hs':=hs
        unfold cmV at hs'
        replace hs':=(Qag hs').2
        repeat (split at hs'<;>first | (cases hs';exact hφ.1) | skip)
        all_goals cases hs'
       obtain⟨a,b⟩:=QBf (C:=C) ok ho he h0
       obtain⟨_,b'⟩:=QB4 b hd e1 hN.g hs hφ
       exact⟨a,fun k=>AL.want hw b' k⟩
      cases e
     cases e
    cases e
   cases e
  cases e
 ·split at e
  ·rename_i hc
   split at e
   ·cases e;exact fun hφ=>⟨hφ.1,fun k=>AWp.condT hc hφ.2 k⟩
   cases e;exact fun hφ=>⟨hφ.1,fun k=>AWp.condF hc hφ.2 k⟩
  cases e
 ·split at e
  ·rename_i u hu;cases e;exact fun hφ=>⟨hφ.1,AK.weaken fun a w=>R.say ⟨u,hu,hφ.2⟩⟩
  cases e
 ·split at e
  ·rename_i u hu;cases e;exact fun hφ=>⟨hφ.1,AK.weaken fun a w=>R.sayO ⟨u,hu,hφ.2⟩⟩
  cases e
 ·cases e;exact fun hφ=>⟨hφ.1,AK.weaken fun a w hR=>hR.to hφ.2.1 hφ.2.2.1 hφ.2.2.2⟩
 ·split at e
  ·rename_i b k ht
   split at e
   ·rename_i z rs hb
    replace e:=Qag e;obtain⟨e1,e⟩:=e
    rw [Qfg]at e1
    cases e;exact fun hφ=>⟨hφ.1,AK.weaken fun a w hR=>hR.freeze e1 ht hb hφ.2.1 hφ.2.2⟩
   cases e
  cases e
 ·split at e
  ·rename_i ht
   split at e
   ·rename_i hb
    cases hbl:Nat.ble 615 _ with
    | true=>rw [hbl]at e;cases e
    | false=>rw [hbl]at e;cases e;exact fun hφ=>⟨hφ,AK.weaken fun a w hR=>hR.adopt (Qfz (by rw [hbl];rfl)) ht hb⟩
   cases e
  cases e
 ·split at e
  ·rename_i v hv;cases e;exact fun hφ=>⟨hφ,AK.weaken fun a w hR=>hR.denil hv⟩
  cases e
 ·split at e
  ·rename_i v hv;cases e;exact fun hφ=>⟨hφ,AK.weaken fun a w hR=>hR.denilO hv⟩
  cases e
 ·replace e:=Qag e;obtain⟨e1,e⟩:=e
  simp only [Qz,Qfg,Option.isNone_iff_eq_none]at e1
  cases e;exact fun hφ=>⟨hφ,AK.weaken fun a w hR=>hR.ren _ _ e1.1.1 e1.1.2 e1.2⟩
 ·cases e;exact fun hφ=>⟨hφ,AK.weaken fun a w hR=>hR.kill _⟩
 ·split at e
  ·rename_i z rs hb
   replace e:=Qag e;obtain⟨e1,e⟩:=e
   rw [Qfg]at e1
   split at e
   ·rename_i σ1 φ1 h1
    split at e
    ·rename_i σ2 φ2 h2
     cases e;exact fun hφ=>⟨hφ.1,AK.weaken fun a w hR=>R.frz e1 hb h1 h2 hφ.2 hR⟩
    cases e
   cases e
  cases e
 ·split at e
  ·rename_i cs hcs
   split at e
   ·rename_i hi
    split at e
    ·rename_i hb
     cases hpb:Nat.beq _ _ with
     | true=>rw [hpb]at e;cases e
     | false=>
      rw [hpb]at e
      cases hbl:Nat.ble 615 _ with
      | true=>rw [hbl]at e;cases e
      | false=>rw [hbl]at e;cases e;exact fun hφ=>⟨hφ,AK.weaken fun a w hR=>R.adoptO hpb hcs hi (Qfz (by rw [hbl];rfl)) hb hR⟩
    cases e
   cases e
  cases e
 ·split at e
  ·rename_i hf
   split at e
   ·rename_i hp
    replace e:=Qag e;obtain⟨e1,e⟩:=e
    cases e;exact fun hφ=>⟨hφ,AK.weaken fun a w hR=>hR.to (QC3 hf) (QC4 hp) e1⟩
   cases e
  cases e
 cases e
theorem QAv (ok:QdO P T)(hN:Qfi P C n):∀(k:Nat) {pt:Pt} {ks:List Fr} {σ:St} {φ:Prop} {c:Cfg},plain P C T n k pt ks σ φ=some c→QBd P C Q pt ks σ φ c:=by
 have hn:=hN.n
 intro k
 induction k with
 | zero=>intro pt ks σ φ c e;cases e;exact fun hφ=>⟨hφ,id⟩
 | succ k ih=>
  intro pt ks σ φ c e
  unfold plain at e
  split at e
  ·rename_i h;cases h
  ·rename_i k' ops o l _ _ _ h
   cases h
   split at e
   ·rename_i hw
    split at e
    ·rename_i hs
     exact fun hφ=>let ⟨a,b⟩:=ih e hφ;let ⟨a',b'⟩:=Quk ok hN hs a;⟨a',fun k=>AL.want hw b' (b k)⟩
    cases e
   ·rename_i hw
    split at e
    ·rename_i d hd
     replace e:=Qag e;obtain⟨e1,e⟩:=e
     rw [←hn]at e1
     exact fun hφ=>let ⟨a,b⟩:=ih e hφ;⟨a,fun k=>AL.pass hw hd e1 (b k)⟩
    rename_i hd
    exact fun hφ=>let ⟨a,b⟩:=ih e hφ;⟨a,fun k=>AL.pass0 hw hd (b k)⟩
   cases e
  rename_i h _
  cases h
  split at e
  ·rename_i hc
   exact fun hφ=>let ⟨a,b⟩:=ih e hφ;⟨a,fun k=>QB2 hc (b k)⟩
  cases e
theorem QC5 (ok:QdO P T)(hN:Qfi P C n):∀(ds:List Dir) {pt:Pt} {ks:List Fr} {σ:St} {φ:Prop} {c:Cfg},go P C T n ds pt ks σ φ=some c→QBd P C Q pt ks σ φ c:=by
 have hn:=hN.n
 intro ds
 induction ds with
 | nil=>intro pt ks σ φ c e;cases e;exact fun hφ=>⟨hφ,id⟩
 | cons d ds ih=>
  intro pt ks σ φ c e
  unfold go at e
  split at e
  ·rename_i h;cases h
  ·rename_i h
   cases h
   split at e
   ·rename_i hp
    exact fun hφ=>let ⟨a,b⟩:=ih e hφ;let ⟨a',b'⟩:=QAv ok hN _ hp a;⟨a',fun k=>b' (b k)⟩
   cases e
  rename_i h
  cases h
  split at e
  ·rename_i hp
   exact fun hφ=>let ⟨a,b⟩:=ih e hφ;let ⟨a',b'⟩:=QBj ok hN hp a;⟨a',fun k=>b' (b k)⟩
  cases e
theorem AK.go (ok:QdO P T)(hN:Qfi P C n)(ds:List Dir){pt pt':Pt}{ks ks':List Fr}{σ σ':St}{φ:Prop}(e:Vm.go P C T n ds pt ks σ True=some ⟨pt',ks',σ',φ⟩)(hφ:φ)(k:AK P C Q pt' ks' σ'):AK P C Q pt ks σ:=
 (QC5 ok hN ds e hφ).2 k
end
end Go.Vm
namespace Go.Vm
open Go Go.RowKit
theorem QJ {α:Type}{l:List α}{f:α→List V}{j:Int}{x:α}(h:idx l j=some x):0≤j∧(l.map f)[j.toNat]? = some (f x):=⟨(Qca h).1,QaJ (Qca h).2⟩
theorem Qbx {α:Type}{l:List α}{j:Int}{x:α}{n:Nat}(h:idx l j=some x)(hn:l.length=n):0≤j∧j<(n:Int):=by subst hn;exact⟨(Qca h).1,QFr h⟩
theorem QpX {a b:Bool}(h:(a&&b)=true):a=true:=(Qz _ _▸h).1
theorem Qhh {a b:Bool}(h:(a&&b)=true):b=true:=(Qz _ _▸h).2
theorem Qum {a b c:Bool}(h:(a&&b&&c)=true):a=true:=QpX (QpX h)
theorem Qun {a b c:Bool}(h:(a&&b&&c)=true):b=true:=Qhh (QpX h)
theorem Quo {a b c:Bool}(h:(a&&b&&c)=true):c=true:=Qhh h
theorem QB5 {α:Type}{l:List α}{h d:Nat}(hl:h≤l.length):V.own d h=V.own d (l.take h).length:=by rw [Qfh,QpI hl]
theorem Qgj {α β:Type}{us:List α}{y:List β}{n:Nat}(h:decide (n+y.length≤4294967296)=true)(e:us.length=y.length):decide (n+us.length≤4294967296)=true:=by rw [e];exact h
theorem QfN {α β:Type}{us:List α}{l y:List β}(e:us.length=y.length):l.length+us.length=(l++y).length:=by rw [e];simp
theorem Qci {rs:List (List V)}{n:Nat}(h:rs.length=n):n≤rs.length∧rs.take n=rs:=by subst h;exact⟨QbY _,Qk3⟩
def ltI (a b:Int):Bool:=decide (a<b)
def ltS (a b:ByteArray):Bool:=decide (a.data.toList.map UInt8.toNat<b.data.toList.map UInt8.toNat)
section
variable {P:Program}{C:Ctx}{T:Tab}{Q:Exit→St→Prop}{n:Nat}{ops:Array Oper}{base:St}
theorem QbS.denil {o:Oper}{σ:St}{d:Nat}{v:V}{ob:Option Ob}{ms:List (Option Nat)}(h:QbS P C ops o σ (σ.addF ⟨d,v,ob⟩)):QbS P C ops o σ (σ.addF ⟨d,v.denil ms,ob⟩):=by
 intro a w hR K Q hK
 refine h a w hR K Q fun a' w' ⟨φ,hr⟩=>hK a' w' ⟨φ,?_⟩
 cases ob with
 | none=>exact RR.putDenil (σ:=σ) hr
 | some ob=>exact RR.putDenil (σ:=σ.set d ob) hr
theorem QjI.app {fr:List (Nat×V)}:∀{l m:List (Nat×V)},QjI fr l→QjI fr m→QjI fr (l++m):=by
 intro l
 induction l with
 | nil=>intro m _ h;exact h
 | cons p l ih=>intro m h h';exact⟨h.1,ih h.2 h'⟩
theorem QhV.app {hp:List (Nat×Ob)}:∀{l m:List (Nat×Ob)},QhV hp l→QhV hp m→QhV hp (l++m):=by
 intro l
 induction l with
 | nil=>intro m _ h;exact h
 | cons p l ih=>intro m h h';exact⟨h.1,ih h.2 h'⟩
theorem Qd.walk {f:FuncId}{fn:Func}{c:Code}{args:List V}{hs:List (Nat×Ob)}{post:V→List (Nat×Ob)→Prop}(n:Nat)(hf:P.funcs[f]? = some fn)(hb:fn.body=some c)(hn:fn.ntmps=n)
  (hle:(Nat.ble args.length n&&Nat.ble n 615)=true) (h:∀C:Ctx,Qfi P C n→AK P C (Qzn P fn.results.toList post) (.c c) [] ⟨QrG 0 args,hs⟩):Qd P f args hs post:=by
 rw [Qz]at hle
 exact Qd.enter hf hb hn hle.1 hle.2 fun C h1 _=>h C h1
theorem Qd.walkR {f:FuncId}{fn:Func}{c:Code}{args:List V}{hs:List (Nat×Ob)}{post:V→List (Nat×Ob)→Prop}(n:Nat)(hf:P.funcs[f]? = some fn)(hb:fn.body=some c)(hn:fn.ntmps=n)
  (hle:(Nat.ble args.length n&&Nat.ble n 615)=true) (h:∀C:Ctx,Qfi P C n→C.rnd=none→AK P C (Qzn P fn.results.toList post) (.c c) [] ⟨QrG 0 args,hs⟩):Qd P f args hs post:=by
 rw [Qz]at hle
 exact Qd.enter hf hb hn hle.1 hle.2 h
theorem gives {r:V}{outs hs:List (Nat×Ob)}(h:QhV hs outs):Gives r outs r hs:=⟨rfl,fun _ _ e=>h.look _ _ e⟩
end
theorem Qm2 {α:Type}{f:α→List V}{l:List α}{n:Nat}(h:n=l.length):n≤(l.map f).length∧(l.map f).take n=l.map f:=by
 subst h;exact⟨by simp,QeV (by simp)⟩
end Go.Vm
namespace Go.Vm
open Go Go.RowKit
section
variable {τ ρ π:Type}
def QbA (body:τ→π→Option (τ⊕ρ)):τ→List π→Option (τ⊕ρ)
 | s,[]=>some (.inl s)
 | s,p::l=>(body s p).bind fun o=>Sum.elim (fun s'=>QbA body s' l) (fun r=>some (.inr r)) o
open Classical in
noncomputable def QcE (body:τ→π→Option (τ⊕ρ))(s:τ):List π→Option (τ⊕ρ)
 | []=>some (.inl s)
 | [p]=>QbA body s [p]
 | l=>if ∀l':List π,l'.Perm l→QbA body s l'=QbA body s l then QbA body s l else none
theorem Qd0 {body:τ→π→Option (τ⊕ρ)}{s:τ}{l:List π}{o:τ⊕ρ}:QcE body s l=some o↔(∀l':List π,l'.Perm l→QbA body s l'=QbA body s l)∧QbA body s l=some o:=by
 unfold QcE
 split
 ·exact⟨fun h=>⟨fun l' hl=>by rw [hl.eq_nil],h⟩,fun h=>h.2⟩
 ·exact⟨fun h=>⟨fun l' hl=>by rw [List.perm_singleton.1 hl],h⟩,fun h=>h.2⟩
 split
 ·rename_i h;exact Iff.intro (fun e=>⟨h,e⟩) (fun e=>e.2)
 rename_i h;exact Iff.intro (fun e=>(by cases e)) (fun e=>absurd e.1 h)
theorem QrJ {body:τ→π→Option (τ⊕ρ)}:∀{l m:List π} {s:τ},QbA body s (l++m)=(QbA body s l).bind fun o=>Sum.elim (fun s'=>QbA body s' m) (fun r=>some (.inr r)) o:=by
 intro l
 induction l with
 | nil=>intro m s;rfl
 | cons p l ih=>
  intro m s
  simp only [Qoj,QbA]
  cases body s p with
  | none=>rfl
  | some o=>
   cases o with
   | inl s'=>exact ih
   | inr r=>rfl
end
def Qax {π:Type}(L:List (Nat×π))(seen:Array Nat):List (Nat×π):=L.filter fun q=>!seen.contains q.1
theorem QsZ {π:Type}{L:List (Nat×π)}(hn:(L.map (·.1)).Nodup){seen:Array Nat}{q:Nat×π}(hq:q∈Qax L seen):(Qax L seen).Perm (q::Qax L (seen.push q.1)):=by
 have key:∀(l:List (Nat×π)),(l.map (·.1)).Nodup→∀p:Nat×π→Bool,q∈l→p q=true→(l.filter p).Perm (q::l.filter fun e=>p e&&!(e.1==q.1)):=by
  intro l
  induction l with
  | nil=>intro _ p h;simp at h
  | cons y l ih=>
   intro hn p hx hp
   rw [QaZ,Qdo]at hn
   rcases Qaa.1 hx with rfl | hx
   ·have h1:l.filter (fun e=>p e&&!(e.1==q.1))=l.filter p:=by
     apply List.filter_congr
     intro e he
     have:e.1≠q.1:=fun h=>hn.1 (by rw [←h];exact Qvi (f:=fun q:Nat×π=>q.1) he)
     simp [this]
    simp [Qm9,hp,h1]
   have hne:y.1≠q.1:=fun h=>hn.1 (by rw [h];exact Qvi (f:=fun q:Nat×π=>q.1) hx)
   have h2:=ih hn.2 p hx hp
   by_cases hy:p y=true
   ·have e1:(y::l).filter p=y::l.filter p:=by simp [Qm9,hy]
    have e2:((y::l).filter fun e=>p e&&!(e.1==q.1))=y::l.filter fun e=>p e&&!(e.1==q.1):=by simp [Qm9,hy,hne]
    rw [e1,e2]
    exact(List.Perm.cons y h2).trans (List.Perm.swap _ _ _)
   have e1:(y::l).filter p=l.filter p:=by simp [Qm9,hy]
   have e2:((y::l).filter fun e=>p e&&!(e.1==q.1))=l.filter fun e=>p e&&!(e.1==q.1):=by simp [Qm9,hy]
   rw [e1,e2];exact h2
 have e2:Qax L (seen.push q.1)=L.filter fun e=>(!seen.contains e.1)&&!(e.1==q.1):=by
  unfold Qax
  apply List.filter_congr
  intro e _
  rw [Bool.eq_iff_iff]
  simp [Array.mem_push]
 rw [e2]
 unfold Qax at hq ⊢
 rw [Qhe]at hq
 exact key L hn _ hq.1 hq.2
theorem QBk {α:Type}:∀{l m:List α},l.Nodup→(∀x∈l,x∈m)→m.length≤l.length→l.Perm m:=by
 classical
 intro l
 induction l with
 | nil=>intro m _ _ h;have:m=[]:=QqV.1 (Nat.le_zero.1 h);subst this;exact .nil
 | cons x l ih=>
  intro m hn hs hl
  rw [Qdo]at hn
  have hx:=hs x Q5
  have hp:=List.perm_cons_erase hx
  refine(List.Perm.cons x (ih hn.2 (fun y hy=>?_) ?_)).trans hp.symm
  ·have hne:y≠x:=fun e=>hn.1 (e▸hy)
   exact(List.mem_erase_of_ne hne).2 (hs y (Qab _ hy))
  have:=hp.length_eq
  simp at this hl
  omega
section
variable {P:Program}{C:Ctx}{Q:Exit→St→Prop}{σ σ':St}{ks:List Fr}{o:Oper}
theorem AK.weakenE {ι:Type _}{f:ι→St}{pt:Pt}(h:∀a w,R C σ a w→∃i,R C (f i) a w)(k:∀i,AK P C Q pt ks (f i)):AK P C Q pt ks σ:=by
 cases pt with
 | c c=>exact fun a w hR=>let ⟨i,hi⟩:=h a w hR;k i a w hi
 | o ops l=>exact fun a w hR=>let ⟨i,hi⟩:=h a w hR;k i a w hi
 | x e=>exact fun a w hR=>let ⟨i,hi⟩:=h a w hR;k i a w hi
def Qbt {κ α:Type}(e:κ→V)(f:α→V)(L:List (Nat×(κ×α))):List (Nat×(V×V)):=L.map fun q=>(q.1,(e q.2.1,f q.2.2))
theorem AK.openMap {κ α:Type}[DecidableEq κ]{K:TypeId}{e:κ→V}{val:κ→Value}{f:α→V}{lt:List (κ×α)}{b:Nat}{pt:Pt}(hk:QfL P K e val)(hb:look σ.hp b=some (.map (QB e f lt)))
  (h:∀bm clock (L:List (Nat×(κ×α))),(L.map (·.1)).Nodup→(L.map Prod.snd).Perm lt→AK P C Q pt ks (σ.set b (.mapX bm clock (Qbt e f L) (QB e f lt)))):AK P C Q pt ks σ:=by
 have key:∀a w,R C σ a w→∃i:{ i:Nat×Nat×List (Nat×(κ×α)) // (i.2.2.map (·.1)).Nodup∧(i.2.2.map Prod.snd).Perm lt },R C (σ.set b (.mapX i.1.1 i.1.2.1 (Qbt e f i.1.2.2) (QB e f lt))) a w:=by
  intro a w ⟨φ,hr⟩
  rcases hr.heap b _ hb with⟨B,hB,hrep⟩|⟨_,h2⟩
  ·obtain⟨es,clock,h1,h2,h3,h4,h5,h6⟩:=hrep
   have hL:∀l:List MapEntry,(∀x∈l,x∈es.toList)→∃L:List (MapEntry×(κ×α)),L.map Prod.fst=l∧∀q∈L,q.2∈lt∧Dat (Imm C φ w) w q.1.key (e q.2.1)∧Dat (Imm C φ w) w q.1.val (f q.2.2):=by
    intro l
    induction l with
    | nil=>intro _;exact⟨[],rfl,fun q hq=>by simp at hq⟩
    | cons x l ih=>
     intro hx
     obtain⟨L,e1,e2⟩:=ih fun y hy=>hx y (Qab _ hy)
     obtain⟨p,hp,a1,a2⟩:=h5 x (hx x Q5)
     obtain⟨q,hq,rfl⟩:=QG.1 hp
     exact⟨(x,q)::L,by rw [QaZ,e1],fun y hy=>by
      rcases Qaa.1 hy with rfl | hy
      ·exact⟨hq,a1,a2⟩
      exact e2 y hy⟩
   obtain⟨L,e1,e2⟩:=hL es.toList fun _ h=>h
   have hn:=(Qng hk.einj).1 h3
   have hborn:(L.map (·.1.born)).Nodup:=by
    have:L.map (·.1.born)=es.toList.map (·.born):=by rw [←e1,Qer];rfl
    rw [this];exact h2.2.1
   have hkeys:(L.map fun q=>q.2.1).Nodup:=by
    have h7:(L.map fun q=>q.1.key).Nodup:=by
     have:(L.map fun q=>q.1.key)=es.toList.map (·.key):=by rw [←e1,Qer];rfl
     rw [this];exact h2.2.2
    have h8:(L.map fun q=>q.1.key)=(L.map fun q=>q.2.1).map val:=by
     rw [Qer]
     apply QjH
     intro q hq
     exact hk.inv _ _ _ _ (e2 q hq).2.1
    rw [h8]at h7
    exact(QqW.1 h7).imp fun hab e'=>hab (by rw [e'])
   have hperm:(L.map Prod.snd).Perm lt:=by
    have hnd:(L.map Prod.snd).Nodup:=by
     have:(L.map fun q=>q.2.1)=(L.map Prod.snd).map Prod.fst:=by rw [Qer];rfl
     rw [this]at hkeys
     exact(QqW.1 hkeys).imp fun hab e'=>hab (by rw [e'])
    have hsub:∀q∈L.map Prod.snd,q∈lt:=fun q hq=>by
     obtain⟨y,hy,rfl⟩:=QG.1 hq
     exact(e2 y hy).1
    have hlen:lt.length≤(L.map Prod.snd).length:=by
     have:(L.map Prod.fst).length=es.toList.length:=by rw [e1]
     simp [QB]at h4 this ⊢
     omega
    have hltnd:lt.Nodup:=(QqW.1 hn).imp fun hab e'=>hab (by rw [e'])
    exact QBk hnd hsub hlen
   have hes:es=(L.map Prod.fst).toArray:=by rw [e1]
   have hfst:(L.map fun q=>(q.1,(e q.2.1,f q.2.2))).map Prod.fst=L.map Prod.fst:=by simp
   refine⟨⟨(B.b,clock,L.map fun q=>(q.1.born,q.2)),by show((L.map _).map _).Nodup;rw [Qer];exact hborn,by show((L.map _).map _).Perm _;rw [Qer];exact hperm⟩,φ,?_⟩
   refine hr.say' hb (fun B' hB' _=>?_) (fun e'=>e'.elim)
   rw [hB]at hB';cases hB'
   refine⟨rfl,L.map fun q=>(q.1,(e q.2.1,f q.2.2)),by simp [Qbt],by rw [h1,hfst,hes],by rw [hfst,←hes];exact h2,h3,?_,fun q hq=>?_⟩
   ·have:(L.map fun q=>(q.1,(e q.2.1,f q.2.2))).map Prod.snd=QB e f (L.map Prod.snd):=by simp [QB]
    rw [this];exact hperm.map _
   obtain⟨q',hq',rfl⟩:=QG.1 hq
   exact(e2 q' hq').2
  exact h2.elim
 exact AK.weakenE key fun i=>h _ _ _ i.2.1 i.2.2
theorem R.closeMap {b bm clock:Nat}{L:List (Nat×(V×V))}{l:List (V×V)}(hb:look σ.hp b=some (.mapX bm clock L l)){a:Act}{w:World}(h:R C σ a w):R C (σ.set b (.map l)) a w:=by
 obtain⟨φ,hr⟩:=h
 refine⟨φ,hr.say' hb (fun B hB hrep=>?_) (fun e'=>e'.elim)⟩
 obtain⟨h1,M,rfl,h2,h3,h4,h5,h6⟩:=hrep
 refine⟨(M.map Prod.fst).toArray,clock,h2,h3,h4,by have:=h5.length_eq;simpa using this,fun x hx=>?_,fun p hp=>?_⟩
 ·obtain⟨q,hq,rfl⟩:=QG.1 (by simpa using hx:x∈M.map Prod.fst)
  exact⟨q.2,h5.mem_iff.1 (Qvi hq),(h6 q hq).1,(h6 q hq).2⟩
 obtain⟨q,hq,rfl⟩:=QG.1 (h5.mem_iff.2 hp)
 exact⟨q.1,by simpa using (⟨q.2.1,q.2.2,hq⟩:∃a b,(q.1,a,b)∈M),(h6 q hq).1,(h6 q hq).2⟩
theorem AK.closeMap {b bm clock:Nat}{L:List (Nat×(V×V))}{l:List (V×V)}{pt:Pt}(hb:look σ.hp b=some (.mapX bm clock L l))(k:AK P C Q pt ks (σ.set b (.map l))):AK P C Q pt ks σ:=AK.weaken (fun _ _ h=>R.closeMap hb h) k
theorem Stp.range {T d b bm clock K E:Nat}{x:Operand}{L:List (Nat×(V×V))}{l:List (V×V)}(ho:o.op=.range T x)(hd:o.dst=some d)(hn:Nat.ble (d+1) C.n=true)(hx:σ.opd x=some (.map b))(hb:look σ.hp b=some (.mapX bm clock L l))
  (hT:QnW P T=some (K,E)) (hf:look σ.hp d=none):Stp P C o σ ((σ.set d (.itr bm clock #[] none)).put d (.loc d 0 0)):=by
 refine Stp.val fun φ a w hr=>?_
 obtain⟨B,hB,hev⟩:=(hr.opd hx).map_inv
 obtain⟨rfl,M,rfl,h2,_⟩:=hr.block hB hb
 refine⟨.pointer (some ⟨w.heap.size,0,none⟩),w.alloc (.mapIter (some B.b) clock #[] clock),ext φ d ⟨w.heap.size,1,0,[],0⟩,?_,?_⟩
 ·simp only [execOp,ho,hev,Sem.run_bind,run_range_map w T K E B.b _ clock (Qkr hT) h2,Result.andThen_ok,Sem.run_pure]
 rw [hd]
 refine(hr.alloc (cap:=1) (z:=0) hf (C.slot hn) (ob:=.itr B.b clock #[] none) (obj:=.mapIter (some B.b) clock #[] clock) ⟨heap_alloc_new w _,rfl,fun x h=>by cases h⟩).put (Qah hn) ?_
 exact .loc d 0 0 ⟨w.heap.size,1,0,[],0⟩ (Q4 _ _ _)
theorem Stp.range0 {T d K E:Nat}{x:Operand}(ho:o.op=.range T x)(hd:o.dst=some d)(hn:Nat.ble (d+1) C.n=true)(hx:σ.opd x=some (.lit (.map none)))(hT:QnW P T=some (K,E))(hf:look σ.hp d=none):
  Stp P C o σ ((σ.set d .itr0).put d (.loc d 0 0)):=by
 refine Stp.val fun φ a w hr=>?_
 have hev:=(hr.opd hx).lit_inv
 refine⟨.pointer (some ⟨w.heap.size,0,none⟩),w.alloc (.mapIter none 0 #[] 0),ext φ d ⟨w.heap.size,1,0,[],0⟩,?_,?_⟩
 ·simp only [execOp,ho,hev,Sem.run_bind,run_range_nilMap w T K E (Qkr hT),Result.andThen_ok,Sem.run_pure]
 rw [hd]
 refine(hr.alloc (cap:=1) (z:=0) hf (C.slot hn) (ob:=.itr0) (obj:=.mapIter none 0 #[] 0) ⟨#[],0,heap_alloc_new w _,rfl⟩).put (Qah hn) ?_
 exact .loc d 0 0 ⟨w.heap.size,1,0,[],0⟩ (Q4 _ _ _)
theorem Stp.next0 {d b:Nat}{x:Operand}(ho:o.op=.next x false)(hd:o.dst=some d)(hn:Nat.ble (d+1) C.n=true)(hx:σ.opd x=some (.loc b 0 0))(hb:look σ.hp b=some .itr0):Stp P C o σ (σ.put d (.tup [.b false])):=by
 refine Stp.val fun φ a w hr=>?_
 obtain⟨B,hB,hev⟩:=(hr.opd hx).loc_inv
 obtain⟨s,c,h1,h0⟩:=hr.block hB hb
 refine⟨.tuple #[.bool false],w,φ,?_,?_⟩
 ·simp only [Qjc,Qol,h0]at hev
  simp only [execOp,ho,hev,Sem.run_bind]
  have:(Instr.next (.pointer (some ⟨B.b,0,none⟩)) false o.type).run P w=.ok (.tuple #[.bool false]) w:=by
   simp only [Instr.next,getObj,Sem.run_bind,Sem.run,h1,Result.andThen]
   rfl
  rw [this];rfl
 rw [hd]
 refine hr.put (Qah hn) (.tup _ _ rfl fun j x v hx hv=>?_)
 cases j with
 | zero=>simp at hx hv;subst hx;subst hv;exact .dat (.b _)
 | succ j=>simp at hx
theorem Stp.entry {d b m bm clock:Nat}{x:Operand}{L:List (Nat×(V×V))}{l:List (V×V)}{seen:Array Nat}{q:Nat×(V×V)}(ho:o.op=.entry x)(hd:o.dst=some d)(hn:Nat.ble (d+1) C.n=true)(hx:σ.opd x=some (.loc b 0 0))
  (hb:look σ.hp b=some (.itr bm clock seen (some q.1))) (hm:look σ.hp m=some (.mapX bm clock L l)) (hq:q∈L):Stp P C o σ (σ.put d (.tup [q.2.1,q.2.2])):=by
 refine Stp.same hd hn fun φ a w hr=>?_
 obtain⟨B,hB,hev⟩:=(hr.opd hx).loc_inv
 obtain⟨h1,h0,h2⟩:=hr.block hB hb
 obtain⟨s0,rfl⟩:=h2 _ rfl
 rcases hr.heap m _ hm with⟨M,hM,g1,N,rfl,g2,g3,g4,g5,g6⟩|⟨_,e'⟩
 ·obtain⟨q,hn,rfl⟩:=QG.1 hq
  refine⟨.tuple #[q.1.key,q.1.val],?_,.tup _ _ rfl fun j x v hx hv=>?_⟩
  ·simp only [Qjc,Qol,h0]at hev
   subst g1
   have he:=run_entry_at (P:=P) w B.b M.b clock s0 _ clock q.1 h1 g2 (by simpa using (⟨q.2.1,q.2.2,hn⟩:∃a b,(q.1,a,b)∈N)) g3.2.1
   simp only [execOp,ho,hev,Sem.run_bind,he,Result.andThen_ok,Sem.run_pure]
  cases j with
  | zero=>simp at hx hv;subst hx;subst hv;exact .dat (g6 q hn).1
  | succ j=>
   cases j with
   | zero=>simp at hx hv;subst hx;subst hv;exact .dat (g6 q hn).2
   | succ j=>simp at hx
 exact e'.elim
theorem Qv3 {π:Type}{N:List (MapEntry×π)}{seen:Array Nat}:(leftOf (N.map Prod.fst).toArray seen).toList=(N.filter fun q=>!seen.contains q.1.born).map Prod.fst:=by
 simp only [leftOf,Array.toList_filter,List.filter_map];rfl
theorem Qw3 {π:Type}{N:List (MapEntry×π)}{seen:Array Nat}:Qax (N.map fun q=>(q.1.born,q.2)) seen=(N.filter fun q=>!seen.contains q.1.born).map fun q=>(q.1.born,q.2):=by
 simp only [Qax,List.filter_map];rfl
theorem AK.next {d b m bm clock:Nat}{x:Operand}{ops:Array Oper}{rest:List Oper}{L:List (Nat×(V×V))}{l:List (V×V)}{seen:Array Nat}{cur:Option Nat}(hg:o.guard=none)(ho:o.op=.next x false)(hd:o.dst=some d)(hn:Nat.ble (d+1) C.n=true)
  (hx:σ.opd x=some (.loc b 0 0)) (hb:look σ.hp b=some (.itr bm clock seen cur)) (hm:look σ.hp m=some (.mapX bm clock L l)) (hbm:Nat.beq b m=false)
  (hdone:Qax L seen=[]→AK P C Q (.o ops rest) ks (σ.put d (.tup [.b false])))
  (hpick:∀q∈Qax L seen,AK P C Q (.o ops rest) ks ((σ.set b (.itr bm clock (seen.push q.1) (some q.1))).put d (.tup [.b true,.J,.J]))):AK P C Q (.o ops (o::rest)) ks σ:=by
 intro a w ⟨φ,hr⟩
 simp only [wpListIn,Region.wanted,hg,if_true]
 obtain⟨B,hB,hev⟩:=(hr.opd hx).loc_inv
 obtain⟨h1,h0,h2⟩:=hr.block hB hb
 simp only [Qjc,Qol,h0]at hev
 rcases hr.heap m _ hm with⟨M,hM,g1,N,rfl,g2,g3,g4,g5,g6⟩|⟨_,e'⟩
 ·subst g1
  refine⟨fun _ _=>trivial,?_⟩
  rw [Oper.semAt_eq _ _ _ (by rw [ho];intro c hc;cases hc)]
  have hold:∀y∈(N.map Prod.fst).toArray.toList,y.born<clock:=g3.1
  rcases run_next_at (P:=P) w o.type B.b M.b clock clock seen _ clock h1 g2 hold (QbY _)with⟨k1,k2⟩|⟨e,k1,w1,k2,k3⟩
  ·simp only [execOp,ho,hev,Sem.run_bind,k2,Result.andThen_ok,Sem.run_pure]
   rw [Oper.uponIn_value]
   refine hdone ?_ _ _ ⟨φ,?_⟩
   ·have h3:(leftOf (N.map Prod.fst).toArray seen).toList.length=0:=by simpa using k1
    rw [Qv3]at h3
    exact QqV.1 (by simpa [Qw3] using h3)
   rw [hd]
   refine hr.put (Qah hn) (.tup _ _ rfl fun j x v hx hv=>?_)
   cases j with
   | zero=>simp at hx hv;subst hx;subst hv;exact .dat (.b _)
   | succ j=>simp at hx
  simp only [execOp,ho,hev,Sem.run_bind,k3,Result.andThen_ok,Sem.run_pure]
  rw [Oper.uponIn_value]
  rw [Qv3]at k1
  obtain⟨q,hq,rfl⟩:=QG.1 k1
  refine hpick (q.1.born,q.2) (by rw [Qw3];exact QG.2 ⟨q,hq,rfl⟩) _ _ ?_
  have hr1:RR C φ σ a w1:=by
   rcases k2 with rfl | rfl
   ·exact hr
   exact hr.step rfl rfl rfl (QbY _) (fun _ _=>rfl)
  have hheap:w1.heap=w.heap:=by rcases k2 with rfl | rfl<;>rfl
  have hlt:=(hr1.lt b B B.b hB B.self).1
  have h4:RR C φ (σ.set b (.itr M.b clock (seen.push q.1.born) (some q.1.born))) a (Go.ChangeMaps.setBlock w1 B.b (.mapIter (some M.b) clock (seen.push q.1.born) clock)):=by
   refine hr1.write hB (by rfl) (by rfl) (by rfl) ?_ ?_ ?_
   ·simp [Go.ChangeMaps.setBlock]
   ·intro k hk
    simp only [Go.ChangeMaps.setBlock]
    exact QeD _ (fun e=>hk e)
   refine⟨?_,h0,fun x e=>?_⟩
   ·simp [Go.ChangeMaps.setBlock,QrF,hlt]
   cases e;exact⟨seen,rfl⟩
  refine⟨φ,?_⟩
  rw [hd]
  refine h4.put (Qah hn) (.tup _ _ rfl fun j x v hx hv=>?_)
  cases j with
  | zero=>simp at hx hv;subst hx;subst hv;exact .dat (.b _)
  | succ j=>
   cases j with
   | zero=>simp at hx hv;subst hv;exact .dat (.J _)
   | succ j=>
    cases j with
    | zero=>simp at hx hv;subst hv;exact .dat (.J _)
    | succ j=>simp at hx
 exact e'.elim
theorem Qyx {κ α:Type}{e:κ→V}{f:α→V}{L:List (Nat×(κ×α))}{seen:Array Nat}:Qax (Qbt e f L) seen=Qbt e f (Qax L seen):=by
 simp only [Qax,Qbt,List.filter_map];rfl
theorem AK.nextT {d b m bm clock:Nat}{x:Operand}{ops:Array Oper}{rest:List Oper}{κ α:Type}{e:κ→V}{f:α→V}{L:List (Nat×(κ×α))}{l:List (V×V)}{seen:Array Nat}{cur:Option Nat}(hg:o.guard=none)(ho:o.op=.next x false)(hd:o.dst=some d)
  (hn:Nat.ble (d+1) C.n=true) (hx:σ.opd x=some (.loc b 0 0)) (hb:look σ.hp b=some (.itr bm clock seen cur)) (hm:look σ.hp m=some (.mapX bm clock (Qbt e f L) l)) (hbm:Nat.beq b m=false)
  (hdone:Qax L seen=[]→AK P C Q (.o ops rest) ks (σ.put d (.tup [.b false])))
  (hpick:∀x k v,(x,(k,v))∈Qax L seen→AK P C Q (.o ops rest) ks ((σ.set b (.itr bm clock (seen.push x) (some x))).put d (.tup [.b true,.J,.J]))):AK P C Q (.o ops (o::rest)) ks σ:=by
 refine AK.next hg ho hd hn hx hb hm hbm (fun h=>hdone ?_) (fun q hq=>?_)
 ·rw [Qyx]at h;simpa [Qbt] using h
 rw [Qyx]at hq
 obtain⟨q',hq',rfl⟩:=QG.1 hq
 exact hpick q'.1 q'.2.1 q'.2.2 hq'
theorem Stp.entryT {d b m bm clock:Nat}{x:Operand}{κ α:Type}{e:κ→V}{f:α→V}{L:List (Nat×(κ×α))}{l:List (V×V)}{seen:Array Nat}{y:Nat}{k:κ}{v:α}(ho:o.op=.entry x)(hd:o.dst=some d)(hn:Nat.ble (d+1) C.n=true)(hx:σ.opd x=some (.loc b 0 0))
  {s0:Array Nat} (hq:(y,(k,v))∈Qax L s0) (hb:look σ.hp b=some (.itr bm clock seen (some y))) (hm:look σ.hp m=some (.mapX bm clock (Qbt e f L) l)):Stp P C o σ (σ.put d (.tup [e k,f v])):=
 Stp.entry (q:=(y,(e k,f v))) ho hd hn hx hb hm (QG.2 ⟨(y,(k,v)),(Qhe.1 hq).1,rfl⟩)
theorem AK.loopOnce {c:Code}(h:AK P C Q (.c c) (.cut (fun _=>False)::ks) σ):AK P C Q (.c (.loop c)) ks σ:=by
 intro a w hR
 refine wpIn_loop_rounds 1 ?_
 rw [roundsIn_succ]
 refine wpIn_mono (h a w hR) ?_
 rintro e a' w' ⟨σ',h1,h2⟩
 cases e<;>first | exact h1.elim | exact⟨σ',h1,h2⟩
def QFZ {τ ρ π:Type}(body:τ→π→Option (τ⊕ρ))(L:List (Nat×π))(E:τ→Array Nat→St→Prop)(Post:ρ→Exit→St→Prop)(PD:τ→Exit→St→Prop)(s:τ)(seen:Array Nat):Exit→St→Prop:=fun e σ'=>
 (Qax L seen=[]∧e≠.normal∧PD s e σ')∨∃q∈Qax L seen,(∃s',body s q.2=some (.inl s')∧e=.normal∧E s' (seen.push q.1) σ')∨(∃r,body s q.2=some (.inr r)∧e≠.normal∧Post r e σ')
theorem AK.range {τ ρ π:Type}{body:τ→π→Option (τ⊕ρ)}{c:Code}{lt:List π}{L:List (Nat×π)}(E:τ→Array Nat→St→Prop)(Post:ρ→Exit→St→Prop)(PD:τ→Exit→St→Prop){s0:τ}{r:τ⊕ρ}(hn:(L.map (·.1)).Nodup)(hp:(L.map Prod.snd).Perm lt)
  (hr:QcE body s0 lt=some r) (h0:E s0 #[] σ)
  (round:∀s seen σ,E s seen σ→(∀q∈Qax L seen,∃o,body s q.2=some o)→AK P C (QFZ body L E Post PD s seen) (.c c) [] σ)
  (hQ:∀e σ',(Sum.elim (fun s=>PD s e σ') (fun q=>Post q e σ') r)→AK P C Q (.x e) ks σ'):AK P C Q (.c (.loop c)) ks σ:=by
 obtain⟨hperm,hrun⟩:=Qd0.1 hr
 have key:∀(k:Nat) (s:τ) (seen:Array Nat),(Qax L seen).length=k→(∃dn,(dn++(Qax L seen).map Prod.snd).Perm lt∧QbA body s0 dn=some (.inl s))→∀σ a w,E s seen σ→R C σ a w→
   Code.roundsIn C.F 0 P c (up C fun e σ'=>Sum.elim (fun s=>PD s e σ') (fun q=>Post q e σ') r) (k+1) a w:=by
  intro k
  induction k with
  | zero=>
   rintro s seen hk ⟨dn,hd1,hd2⟩ σ a w hE hR
   have hnil:=QqV.1 hk
   rw [roundsIn_succ]
   refine wpIn_mono (round s seen σ hE (fun q hq=>by rw [hnil]at hq;cases hq) a w hR) ?_
   rintro e a' w' ⟨σ',hq,hR'⟩
   rcases hq with⟨_,h2,h3⟩|⟨q,hq,_⟩
   ·rw [hnil]at hd1
    have:QbA body s0 dn=some r:=by rw [←hrun];exact hperm dn (by simpa using hd1)
    rw [this]at hd2;cases hd2
    cases e<;>first | exact absurd rfl h2 | exact⟨σ',h3,hR'⟩
   rw [hnil]at hq;cases hq
  | succ k ih=>
   rintro s seen hk ⟨dn,hd1,hd2⟩ σ a w hE hR
   rw [roundsIn_succ]
   have hall:∀q∈Qax L seen,∃o,body s q.2=some o∧∃rest,(dn++q.2::rest).Perm lt∧rest=(Qax L (seen.push q.1)).map Prod.snd:=fun q hq=>by
    have h1:=(QsZ hn hq).map Prod.snd
    have h2:(dn++q.2::(Qax L (seen.push q.1)).map Prod.snd).Perm lt:=((List.Perm.append_left dn h1).symm).trans hd1
    have h3:QbA body s0 (dn++q.2::(Qax L (seen.push q.1)).map Prod.snd)=some r:=by rw [←hrun];exact hperm _ h2
    rw [QrJ,hd2]at h3
    simp only [Qi,Sum.elim_inl,QbA]at h3
    cases hb:body s q.2 with
    | none=>rw [hb]at h3;cases h3
    | some o=>exact⟨o,rfl,_,h2,rfl⟩
   refine wpIn_mono (round s seen σ hE (fun q hq=>let ⟨o,h,_⟩:=hall q hq;⟨o,h⟩) a w hR) ?_
   rintro e a' w' ⟨σ',hq,hR'⟩
   rcases hq with⟨h1,_,_⟩|⟨q,hq,⟨s',h1,rfl,h3⟩|⟨r',h1,h2,h3⟩⟩
   ·rw [h1]at hk;cases hk
   ·obtain⟨_,_,rest,h5,h6⟩:=hall q hq
    refine ih s' (seen.push q.1) ?_ ⟨dn++[q.2],?_,?_⟩ σ' a' w' h3 hR'
    ·have:=(QsZ hn hq).length_eq;simp at this;omega
    ·rw [QhT,List.singleton_append,←h6];exact h5
    rw [QrJ,hd2];simp only [Qi,Sum.elim_inl,QbA,h1]
   obtain⟨_,_,rest,h5,h6⟩:=hall q hq
   have h7:QbA body s0 (dn++q.2::rest)=some r:=by rw [←hrun];exact hperm _ h5
   rw [QrJ,hd2]at h7
   simp only [Qi,Sum.elim_inl,QbA,h1,Sum.elim_inr]at h7
   cases h7
   cases e<;>first | exact absurd rfl h2 | exact⟨σ',h3,hR'⟩
 intro a w hR
 have hL:Qax L #[]=L:=by simp [Qax]
 refine wpIn_mono (wpIn_loop_rounds _ (key _ s0 #[] rfl ⟨[],by rw [hL];simpa using hp,rfl⟩ σ a w h0 hR)) ?_
 rintro e a' w' ⟨σ',h1,h2⟩
 exact hQ e σ' h1 a' w' h2
end
end Go.Vm
namespace Go.Vm
open Go Go.RowKit
structure Mut where
 kills:List Nat
 sets:List (Nat×Ob)
 put:Option (Nat×V)
def St.sets (σ:St):List (Nat×Ob)→St
 | []=>σ
 | (o,ob)::r=>(σ.sets r).set o ob
def Mut.run (M:Mut)(σ:St):St:=match M.put with
 | none=>(σ.killL M.kills).sets M.sets
 | some (d,v)=>((σ.killL M.kills).sets M.sets).put d v
def Sub (σ B:St):Prop:=(∀t v,look B.fr t=some v→look σ.fr t=some v)∧∀p ob,look B.hp p=some ob→look σ.hp p=some ob
theorem QnX {b:Nat}:∀(l:List (Nat×V)) (t:Nat),look (Qje b l) t=(look l t).map (V.kill b):=by
 intro l
 induction l with
 | nil=>intro t;rfl
 | cons p l ih=>
  obtain⟨k,v⟩:=p
  intro t
  by_cases e:k=t
  ·subst e;rw [Qje,Qu,Qu];rfl
  rw [Qje,Qr _ _ e,Qr _ _ e];exact ih t
theorem Qk5 {b:Nat}:∀(l:List (Nat×Ob)) (t:Nat),look (QfH b l) t=if t=b then none else(look l t).map (Ob.kill b):=by
 intro l t
 by_cases h:t=b
 ·rw [if_pos h]
  cases hl:look (QfH b l) t with
  | none=>rfl
  | some ob=>obtain⟨h1,_⟩:=QcX _ _ _ hl;exact absurd h h1
 rw [if_neg h]
 cases hl:look l t with
 | none=>
  cases hk:look (QfH b l) t with
  | none=>rfl
  | some ob=>obtain⟨_,ob',h1,_⟩:=QcX _ _ _ hk;rw [hl]at h1;cases h1
 | some ob=>exact Qge _ _ _ h hl
theorem Sub.kill {σ B:St}(h:Sub σ B)(b:Nat):Sub (σ.kill b) (B.kill b):=by
 refine⟨fun t v hv=>?_,fun p ob hob=>?_⟩
 ·have hv:look (Qje b B.fr) t=some v:=hv
  show look (Qje b σ.fr) t=some v
  rw [QnX]at hv ⊢
  obtain⟨u,hu,rfl⟩:=Qaq.1 hv
  rw [h.1 t u hu];rfl
 have hob:look (QfH b B.hp) p=some ob:=hob
 show look (QfH b σ.hp) p=some ob
 rw [Qk5]at hob ⊢
 split at hob
 ·cases hob
 rename_i hne
 rw [if_neg hne]
 obtain⟨u,hu,rfl⟩:=Qaq.1 hob
 rw [h.2 p u hu];rfl
theorem Sub.killL : ∀{l:List Nat} {σ B:St},Sub σ B→Sub (σ.killL l) (B.killL l):=by
 intro l
 induction l with
 | nil=>intro σ B h;exact h
 | cons b l ih=>intro σ B h;exact ih (h.kill b)
theorem Sub.set {σ B:St}(h:Sub σ B)(o:Nat)(ob:Ob):Sub (σ.set o ob) (B.set o ob):=by
 refine⟨h.1,fun p u hu=>?_⟩
 by_cases e:p=o
 ·subst e;rw [St.look_set_same]at hu ⊢;exact hu
 rw [St.look_set_other _ _ (Ne.symm e)]at hu ⊢;exact h.2 p u hu
theorem Sub.sets : ∀{l:List (Nat×Ob)} {σ B:St},Sub σ B→Sub (σ.sets l) (B.sets l):=by
 intro l
 induction l with
 | nil=>intro σ B h;exact h
 | cons p l ih=>intro σ B h;exact(ih h).set p.1 p.2
theorem Sub.put {σ B:St}(h:Sub σ B)(d:Nat)(v:V):Sub (σ.put d v) (B.put d v):=by
 refine⟨fun t u hu=>?_,h.2⟩
 have hu:look ((d,v)::B.fr) t=some u:=hu
 show look ((d,v)::σ.fr) t=some u
 by_cases e:d=t
 ·subst e;rw [Qu]at hu ⊢;exact hu
 rw [Qr _ _ e]at hu ⊢;exact h.1 t u hu
theorem Sub.run {σ B:St}(h:Sub σ B)(M:Mut):Sub (M.run σ) (M.run B):=by
 unfold Mut.run
 split
 ·exact h.killL.sets
 exact h.killL.sets.put _ _
def Mut.keeps (M:Mut)(t:Nat)(v:V):Bool:=M.kills.all (fun b=>v.free b)&&(match M.put with | none=>true | some (d,_)=>!(Nat.beq d t))
def Mut.keepsO (M:Mut)(p:Nat):Bool:=M.kills.all (fun b=>!(Nat.beq b p))&&M.sets.all (fun q=>!(Nat.beq q.1 p))
def Ob.keep1 (b:Nat):Ob→Bool
 | .var cs=>cs.all (V.freeC b)
 | .lp _ _ cs _=>cs.all (V.freeC b)
 | _=>true
theorem QBl : ∀{l:List Nat} {σ:St} {t:Nat} {v:V},l.all (fun b=>v.free b)=true→look σ.fr t=some v→look (σ.killL l).fr t=some v:=by
 intro l
 induction l with
 | nil=>intro σ t v _ h;exact h
 | cons b l ih=>
  intro σ t v hl h
  rw [Qoi,Qz]at hl
  refine ih hl.2 ?_
  show look (Qje b σ.fr) t=some v
  rw [QnX,h,QdY,V.kill,hl.1];rfl
theorem Qx0 : ∀{l:List (Nat×Ob)} {σ:St},(σ.sets l).fr=σ.fr:=by
 intro l
 induction l with
 | nil=>intro σ;rfl
 | cons p l ih=>intro σ;exact ih
theorem Mut.keeps_look {M:Mut}{σ:St}{t:Nat}{v:V}(hk:M.keeps t v=true)(h:look σ.fr t=some v):look (M.run σ).fr t=some v:=by
 unfold Mut.keeps at hk
 rw [Qz]at hk
 have h1:look ((σ.killL M.kills).sets M.sets).fr t=some v:=by rw [Qx0];exact QBl hk.1 h
 unfold Mut.run
 split
 ·exact h1
 rename_i d u hp
 rw [hp]at hk
 have hne:d≠t:=Qiy hk.2
 show look ((d,u)::_) t=some v
 rw [Qr _ _ hne];exact h1
theorem Qx1 : ∀{l:List Nat} {σ:St} {p:Nat},look σ.hp p=none→look (σ.killL l).hp p=none:=by
 intro l
 induction l with
 | nil=>intro σ p h;exact h
 | cons b l ih=>
  intro σ p h
  refine ih ?_
  show look (QfH b σ.hp) p=none
  rw [Qk5,h];simp
theorem QzF : ∀{l:List (Nat×Ob)} {σ:St} {p:Nat},l.all (fun q=>!(Nat.beq q.1 p))=true→look σ.hp p=none→look (σ.sets l).hp p=none:=by
 intro l
 induction l with
 | nil=>intro σ p _ h;exact h
 | cons q l ih=>
  intro σ p hl h
  rw [Qoi,Qz]at hl
  show look ((σ.sets l).set q.1 q.2).hp p=none
  rw [St.look_set_other _ _ (Qiy hl.1)];exact ih hl.2 h
theorem Mut.none_look {M:Mut}{σ:St}{p:Nat}(hk:M.sets.all (fun q=>!(Nat.beq q.1 p))=true)(h:look σ.hp p=none):look (M.run σ).hp p=none:=by
 have h1:look ((σ.killL M.kills).sets M.sets).hp p=none:=QzF hk (Qx1 h)
 unfold Mut.run
 split<;>exact h1
theorem Ob.kill_keep {ob:Ob}{b:Nat}(h:ob.keep1 b=true):ob.kill b=ob:=by
 cases ob with
 | var cs=>
  simp only [Ob.keep1,Qac]at h
  simp only [Ob.kill,Ob.var.injEq]
  conv=>rhs;rw [←List.map_id cs]
  apply QjH
  intro v hv
  simp only [V.killC,h v hv,cond_true,id]
 | lp l K cs q=>
  simp only [Ob.keep1,Qac]at h
  simp only [Ob.kill,Ob.lp.injEq,true_and,and_true]
  conv=>rhs;rw [←List.map_id cs]
  apply QjH
  intro v hv
  simp only [V.killC,h v hv,cond_true,id]
 | _=>rfl
theorem QyY : ∀{l:List Nat} {σ:St} {p:Nat} {ob:Ob},l.all (fun b=>!(Nat.beq b p))=true→l.all (fun b=>ob.keep1 b)=true→look σ.hp p=some ob→look (σ.killL l).hp p=some ob:=by
 intro l
 induction l with
 | nil=>intro σ p ob _ _ h;exact h
 | cons b l ih=>
  intro σ p ob hl hp h
  rw [Qoi,Qz]at hl hp
  refine ih hl.2 hp.2 ?_
  show look (QfH b σ.hp) p=some ob
  rw [Qk5,if_neg (Qiy hl.1).symm,h,QdY,Ob.kill_keep hp.1]
theorem QzG : ∀{l:List (Nat×Ob)} {σ:St} {p:Nat} {ob:Ob},l.all (fun q=>!(Nat.beq q.1 p))=true→look σ.hp p=some ob→look (σ.sets l).hp p=some ob:=by
 intro l
 induction l with
 | nil=>intro σ p ob _ h;exact h
 | cons q l ih=>
  intro σ p ob hl h
  rw [Qoi,Qz]at hl
  show look ((σ.sets l).set q.1 q.2).hp p=some ob
  rw [St.look_set_other _ _ (Qiy hl.1)];exact ih hl.2 h
theorem Mut.keepsO_look {M:Mut}{σ:St}{p:Nat}{ob:Ob}(hk:M.keepsO p=true)(hp:M.kills.all (fun b=>ob.keep1 b)=true)(h:look σ.hp p=some ob):look (M.run σ).hp p=some ob:=by
 unfold Mut.keepsO at hk
 rw [Qz]at hk
 have h1:look ((σ.killL M.kills).sets M.sets).hp p=some ob:=QzG hk.2 (QyY hk.1 hp h)
 unfold Mut.run
 split<;>exact h1
section
variable {P:Program}{C:Ctx}{Q:Exit→St→Prop}{ops:Array Oper}{σ:St}{ks:List Fr}
theorem QB6 (Inv:Array Bool→St→Prop)
  (step:∀listed σ i o,listed.size=ops.size→Que ops listed→i∈Region.ready .any ops listed→ops[i]? = some o→Inv listed σ→∃σ',QbS P C ops o σ σ'∧Inv (listed.setIfInBounds i true) σ')
  (hord:QxX ops=true) (hend:∀listed σ,listed.size=ops.size→(∀i,i<ops.size→listed[i]? = some true)→Inv listed σ→∀a w,R C σ a w→up C Q .normal a w):
  ∀(fuel:Nat) (listed:Array Bool) (a:Act) (w:World) (σ:St),((List.range ops.size).filter fun i=>!(listed[i]? == some true)).length≤fuel→listed.size=ops.size→Que ops listed→Inv listed σ→R C σ a w→wpAnyIn C.F 0 P .any ops (up C Q) fuel listed a w:=by
 intro fuel
 have allOf:∀{listed:Array Bool},listed.size=ops.size→Region.ready .any ops listed=[]→∀i,i<ops.size→listed[i]? = some true:=by
  intro listed hs hr
  apply Classical.byContradiction
  intro h
  have hex:∃i,i<ops.size∧listed[i]? ≠ some true:=by
   apply Classical.byContradiction
   intro h'
   exact h fun i hi=>Classical.byContradiction fun hn=>h' ⟨i,hi,hn⟩
  obtain⟨k,h1,h2,h3⟩:=Qzr ops.size hex
  have:=QAs hord hs h1 h2 h3
  rw [hr]at this;cases this
 induction fuel with
 | zero=>
  intro listed a w σ hf hs hd hI hR
  have hall:∀i,i<ops.size→listed[i]? = some true:=fun i hi=>by
   have:=QqV.1 (Nat.le_zero.1 hf)
   rw [List.filter_eq_nil_iff]at this
   simpa using this i (QiD.2 hi)
  refine⟨?_,hend listed σ hs hall hI a w hR⟩
  rw [List.eq_nil_iff_forall_not_mem]
  intro i hi
  obtain⟨o,ho,hl,_⟩:=(Qm1 hs).1 hi
  rw [hall i (Qhw.1 ho).1]at hl;cases hl
 | succ fuel ih=>
  intro listed a w σ hf hs hd hI hR
  refine⟨fun hr=>hend listed σ hs (allOf hs hr) hI a w hR,fun i hi=>?_⟩
  obtain⟨o,ho,hl,hdeps⟩:=(Qm1 hs).1 hi
  obtain⟨σ',hos,hI'⟩:=step listed σ i o hs hd hi ho hI
  have hin:i<listed.size:=by rw [hs];exact(Qhw.1 ho).1
  have next:∀a' w',R C σ' a' w'→wpAnyIn C.F 0 P .any ops (up C Q) fuel (listed.setIfInBounds i true) a' w':=fun a' w' hR'=>by
   refine ih _ a' w' σ' ?_ (by simpa using hs) (hd.set hs hi) hI' hR'
   have count:∀(l:List Nat),i∈l→(l.filter fun j=>!((listed.setIfInBounds i true)[j]? == some true)).length+1≤(l.filter fun j=>!(listed[j]? == some true)).length:=by
    intro l
    have le:∀(l:List Nat),(l.filter fun j=>!((listed.setIfInBounds i true)[j]? == some true)).length≤(l.filter fun j=>!(listed[j]? == some true)).length:=by
     intro l
     induction l with
     | nil=>simp
     | cons x l ihl=>
      by_cases e:i=x
      ·subst e
       rw [List.filter_cons_of_neg (by simp [QrF,hin]),List.filter_cons_of_pos (by rw [hl];simp)]
       simp;omega
      simp only [Qm9,Qzk e]
      split
      ·simpa using ihl
      exact ihl
    induction l with
    | nil=>intro h;cases h
    | cons x l ihl=>
     intro hm
     by_cases e:i=x
     ·subst e
      rw [List.filter_cons_of_neg (by simp [QrF,hin]),List.filter_cons_of_pos (by rw [hl];simp)]
      have:=le l
      simp;omega
     have hm':i∈l:=by
      rcases Qaa.1 hm with h | h
      ·exact absurd h e
      exact h
     have:=ihl hm'
     simp only [Qm9,Qzk e]
     split
     ·simpa using this
     exact this
   have:=count (List.range ops.size) (QiD.2 (by rw [←hs];exact hin))
   omega
  unfold wpOpIn
  simp only [ho]
  have:=hos a w hR (wpAnyIn C.F 0 P .any ops (up C Q) fuel (listed.setIfInBounds i true)) (up C Q) next
  split
  ·rename_i hw;rw [if_pos hw]at this;exact this
  rename_i hw;rw [if_neg hw]at this;exact⟨fun _ _=>trivial,this⟩
theorem AK.regionInv {id:Nat}(Inv:Array Bool→St→Prop)(hmix:P.follows .mixedOrders=true)
  (step:∀listed σ i o,listed.size=ops.size→Que ops listed→i∈Region.ready .any ops listed→ops[i]? = some o→Inv listed σ→∃σ',QbS P C ops o σ σ'∧Inv (listed.setIfInBounds i true) σ')
  (hord:QxX ops=true) (h0:Inv (Array.replicate ops.size false) σ) (hend:∀listed σ',listed.size=ops.size→(∀i,i<ops.size→listed[i]? = some true)→Inv listed σ'→AK P C Q (.x .normal) ks σ'):AK P C Q (.c (.region id ops true)) ks σ:=by
 intro a w hR
 refine wpIn_region_any hmix ?_
 have hR':R C σ a { w with drawn:=w.drawn+1 }:=by
  obtain⟨φ,hr⟩:=hR
  exact⟨φ,hr.step rfl rfl rfl (QbY _) (fun _ _=>rfl)⟩
 refine QB6 Inv step hord (fun listed σ' hs hall hI a w hR=>hend listed σ' hs hall hI a w hR) ops.size (Array.replicate ops.size false) a _ σ ?_ (by simp) ?_ h0 hR'
 ·exact Qaw (Qvg _ _) (by simp)
 intro i o _ h
 simp [Array.getElem?_replicate]at h
end
inductive It where
 | add (x:DF) (fl nf:Bool)
 | tn (M:Mut)
def Q7 : List It→List Mut
 | []=>[]
 | .add _ _ _::r=>Q7 r
 | .tn M::r=>M::Q7 r
def bof (base:St):List Mut→St
 | []=>base
 | M::r=>bof (M.run base) r
def Qzg (x:DF)(M:Mut):Bool:=match x.ob with | none=>true | some ob=>M.keepsO x.d&&M.kills.all (fun b=>ob.keep1 b)
def Qzh (x:DF)(M:Mut):Bool:=M.keeps x.d x.v&&Qzg x M
def alv (x:DF)(fl:Bool)(ms:List Mut):Bool:=fl||ms.all (fun M=>M.keeps x.d x.v)
def QrK (x:DF)(fl:Bool)(ms:List Mut):Bool:=fl||ms.all (Qzg x)
def Qnh (σ:St)(x:DF)(fl:Bool)(ms:List Mut):Prop:=(alv x fl ms=true→look σ.fr x.d=some x.v)∧(QrK x fl ms=true→∀ob,x.ob=some ob→look σ.hp x.d=some ob)
def QjK (ops:Array Oper):Nat→Nat→Nat→Bool
 | 0,_,_=>false
 | n+1,i,k=>match ops[k]? with
  | some o=>QlM o i||o.after.toList.any fun e=>Region.binds .any e&&QjK ops n i e.on
  | none=>false
def Qw4 (its:List It)(p:Nat):Bool:=match its[p]? with
 | some (.tn _)=>true
 | _=>false
def QC6 (ops:Array Oper)(its:List It):Bool:=(List.range its.length).all fun i=>(List.range its.length).all fun p=>!(Qw4 its p)||Nat.beq p i ||
 (match its[i]? with | some (.add _ true false)=>true | some _=>bif Nat.ble (p+1) i then QjK ops 8 p i else QjK ops 8 i p | none=>true)
def QpY : List It→List Nat
 | []=>[]
 | .add x _ _::r=>x.d::QpY r
 | .tn _::r=>QpY r
def Qkv : List Mut→List Nat
 | []=>[]
 | M::r=>match M.put with
  | some (d,_)=>d::Qkv r
  | none=>Qkv r
def QzH : List Mut→List Nat
 | []=>[]
 | M::r=>M.sets.map Prod.fst++QzH r
def Qs0 : List It→List Nat
 | []=>[]
 | .add x _ _::r=>match x.ob with
  | some _=>x.d::Qs0 r
  | none=>Qs0 r
 | .tn _::r=>Qs0 r
def Qr7 (ms:List Mut):List It→Bool
 | []=>true
 | .add x fl _::r=>(!fl||ms.all (Qzh x))&&Qr7 ms r
 | .tn _::r=>Qr7 ms r
def Qup (ms:List Mut)(S:St):Bool:=S.fr.all (fun p=>ms.all fun M=>M.keeps p.1 p.2)&&S.hp.all (fun p=>ms.all fun M=>M.keepsO p.1&&M.kills.all (fun b=>p.2.keep1 b))
def QzI (base:St)(its:List It):Bool:=Qgf (QpY its)&&(QpY its).all (fun d=>!(Q8 (keys base.fr) d)&&!(Q8 (Qkv (Q7 its)) d)) &&
 (Qs0 its).all (fun d=>!(Q8 (keys base.hp) d))
def QBm (ops:Array Oper)(its:List It):Bool:=(List.range its.length).all fun i=>(List.range its.length).all fun p=>match its[i]? with
 | some (.add x _ _)=>match its[p]? with
  | some (.tn M)=>x.ob.isNone||!(Q8 (M.sets.map Prod.fst) x.d)||QjK ops 8 i p
  | _=>true
 | _=>true
section
variable {P:Program}{C:Ctx}{Q:Exit→St→Prop}{ops:Array Oper}{ks:List Fr}{base S:St}{its:List It}
def j0 (its:List It)(k:Nat):Nat:=(Q7 (its.take k)).length
def Qr8 (P:Program)(C:Ctx)(ops:Array Oper)(base S:St)(its:List It)(i:Nat)(o:Oper):It→Prop
 | .add x fl nf=>match fl&&!nf with
  | false=>∀σ,Sub σ (bof base ((Q7 its).take (j0 its i)))→(∀k y fl nf,its[k]? = some (.add y fl nf)→QlM o k=true→Qnh σ y fl (((Q7 its).take (j0 its i)).drop (j0 its k)))→(x.ob.isSome=true→look σ.hp x.d=none)→QbS P C ops o σ (σ.addF x)
  | true=>∀σ,Sub σ S→(∀k y nf,its[k]? = some (.add y true nf)→QlM o k=true→Qwc σ y)→(x.ob.isSome=true→look σ.hp x.d=none)→QbS P C ops o σ (σ.addF x)
 | .tn M=>∀σ,Sub σ (bof base ((Q7 its).take (j0 its i)))→(∀k y fl nf,its[k]? = some (.add y fl nf)→QlM o k=true→Qnh σ y fl (((Q7 its).take (j0 its i)).drop (j0 its k)))→QbS P C ops o σ (M.run σ)
theorem Qkw {listed:Array Bool}(hd:Que ops listed):∀(n:Nat) {i k:Nat},QjK ops n i k=true→listed[k]? = some true→listed[i]? = some true:=by
 intro n
 induction n with
 | zero=>intro i k h;cases h
 | succ n ih=>
  intro i k h hk
  rw [QjK]at h
  split at h
  ·rename_i o ho
   rw [QdN]at h
   rcases h with h | h
   ·simp only [QlM,Qm8,Qz]at h
    obtain⟨e,he,hb,hon⟩:=h
    have:=hd k o ho hk e (Qwa.1 he) hb
    rwa [QaM hon]at this
   simp only [Qm8,Qz]at h
   obtain⟨e,he,hb,hm⟩:=h
   exact ih hm (hd k o ho hk e (Qwa.1 he) hb)
  cases h
theorem Qv4 {listed:Array Bool}(hs:listed.size=ops.size)(hd:Que ops listed){n i k:Nat}(h:QjK ops n i k=true)(hk:k∈Region.ready .any ops listed):listed[i]? = some true:=by
 obtain⟨o,ho,hl,hdeps⟩:=(Qm1 hs).1 hk
 cases n with
 | zero=>cases h
 | succ n=>
  rw [QjK,ho]at h
  dsimp only at h
  rw [QdN]at h
  rcases h with h | h
  ·simp only [QlM,Qm8,Qz]at h
   obtain⟨e,he,hb,hon⟩:=h
   have:=hdeps e (Qwa.1 he) hb
   rwa [QaM hon]at this
  simp only [Qm8,Qz]at h
  obtain⟨e,he,hb,hm⟩:=h
  exact Qkw hd n hm (hdeps e (Qwa.1 he) hb)
theorem Qg8 : ∀{l m:List It},Q7 (l++m)=Q7 l++Q7 m:=by
 intro l
 induction l with
 | nil=>intro m;rfl
 | cons x l ih=>intro m;cases x<;>simp [Q7,ih]
theorem Qw5 {ms ns:List Mut}:∀{B:St},bof B (ms++ns)=bof (bof B ms) ns:=by
 induction ms with
 | nil=>intro B;rfl
 | cons M ms ih=>intro B;exact ih
theorem QBn {its:List It}{i:Nat}{M:Mut}(h:its[i]? = some (.tn M)):(Q7 its)[j0 its i]? = some M∧(Q7 its).take (j0 its i+1)=(Q7 its).take (j0 its i)++[M]:=by
 have hlt:=(QQ.1 h).1
 have e:its=its.take i++(.tn M::its.drop (i+1)):=by
  have:its.drop i=its[i]::its.drop (i+1):=Qvd hlt
  have h2:its[i]=.tn M:=by have:=QD hlt;rw [h]at this;exact(Option.some.inj this).symm
  rw [h2]at this
  rw [←this,List.take_append_drop]
 have e2:Q7 its=Q7 (its.take i)++(M::Q7 (its.drop (i+1))):=by
  conv=>lhs;rw [e]
  rw [Qg8];rfl
 unfold j0
 rw [e2]
 refine⟨by simp,?_⟩
 rw [List.take_append,List.take_append]
 simp [QeV]
theorem QBo {σ:St}{x:DF}{M:Mut}(hk:Qzh x M=true)(h:Qwc σ x):Qwc (M.run σ) x:=by
 unfold Qzh Qzg at hk
 rw [Qz]at hk
 refine⟨Mut.keeps_look hk.1 h.1,fun ob hob=>?_⟩
 rw [hob]at hk
 have hk2:=hk.2
 dsimp only at hk2
 rw [Qz]at hk2
 exact Mut.keepsO_look hk2.1 hk2.2 (h.2 ob hob)
theorem Qnh.of {σ:St}{x:DF}{fl:Bool}{ms:List Mut}(h:Qwc σ x):Qnh σ x fl ms:=⟨fun _=>h.1,fun _=>h.2⟩
theorem Qnh.run {σ:St}{x:DF}{ms:List Mut}{M:Mut}(h:Qnh σ x false ms):Qnh (M.run σ) x false (ms++[M]):=by
 refine⟨fun hal=>?_,fun hal ob hob=>?_⟩
 ·simp only [alv,Bool.false_or,List.all_append,Qz,Qoi,List.all_nil,Bool.and_true]at hal
  exact Mut.keeps_look hal.2 (h.1 (by simp only [alv,Bool.false_or];exact hal.1))
 simp only [QrK,Bool.false_or,List.all_append,Qz,Qoi,List.all_nil,Bool.and_true]at hal
 have h1:=h.2 (by simp only [QrK,Bool.false_or];exact hal.1) ob hob
 have hk:=hal.2
 unfold Qzg at hk
 rw [hob]at hk
 dsimp only at hk
 rw [Qz]at hk
 exact Mut.keepsO_look hk.1 hk.2 h1
theorem QEx {p:Nat}{M:Mut}(h:its[p]? = some (.tn M)):j0 its (p+1)=j0 its p+1:=by
 have hlt:=(QQ.1 h).1
 unfold j0
 rw [Qdp,h,Qg8];simp [Q7]
theorem Qzi : ∀{a b:Nat},a≤b→j0 its a≤j0 its b:=by
 intro a b h
 unfold j0
 obtain⟨c,rfl⟩:=Nat.exists_eq_add_of_le h
 rw [List.take_add,Qg8];simp
theorem QBp {p i:Nat}{M:Mut}(h:its[p]? = some (.tn M))(hpi:p<i):j0 its p<j0 its i:=by
 have:=QEx h
 have:=Qzi (its:=its) (show p+1≤i from hpi)
 omega
theorem Qvo : ∀{its:List It} {c:Nat},c<(Q7 its).length→∃p M,its[p]? = some (.tn M)∧j0 its p=c:=by
 intro its
 induction its with
 | nil=>intro c h;simp [Q7]at h
 | cons it its ih=>
  intro c h
  cases it with
  | add x fl=>
   obtain⟨p,M,h1,h2⟩:=ih (c:=c) h
   exact⟨p+1,M,by simpa using h1,by simpa [j0,Q7] using h2⟩
  | tn M=>
   cases c with
   | zero=>exact⟨0,M,rfl,by simp [j0,Q7]⟩
   | succ c=>
    obtain⟨p,M',h1,h2⟩:=ih (c:=c) (by simpa [Q7] using h)
    exact⟨p+1,M',by simpa using h1,by simpa [j0,Q7] using h2⟩
theorem QzJ {p:Nat}{M:Mut}(h:its[p]? = some (.tn M)):j0 its p<(Q7 its).length:=(QQ.1 (QBn h).1).1
theorem Sub.stable : ∀{ms:List Mut} {B S:St},Qup ms S=true→Sub B S→∀n,Sub (bof B (ms.take n)) S:=by
 intro ms
 induction ms with
 | nil=>intro B S _ h n;simpa [bof] using h
 | cons M ms ih=>
  intro B S hk h n
  cases n with
  | zero=>exact h
  | succ n=>
   unfold Qup at hk
   rw [Qz,Qac,Qac]at hk
   refine ih (B:=M.run B) ?_ ⟨fun t v hv=>?_,fun p ob hob=>?_⟩ n
   ·unfold Qup
    rw [Qz,Qac,Qac]
    exact⟨fun p hp=>by have:=hk.1 p hp;rw [Qoi,Qz]at this;exact this.2,fun p hp=>by have:=hk.2 p hp;rw [Qoi,Qz]at this;exact this.2⟩
   ·have:=hk.1 (t,v) (Qbo hv)
    rw [Qoi,Qz]at this
    exact Mut.keeps_look this.1 (h.1 t v hv)
   have:=hk.2 (p,ob) (Qbo hob)
   rw [Qoi,Qz,Qz]at this
   exact Mut.keepsO_look this.1.1 this.1.2 (h.2 p ob hob)
theorem Qs1 : ∀{its:List It} {i:Nat} {x:DF} {fl nf:Bool},its[i]? = some (.add x fl nf)→x.d∈QpY its∧(x.ob.isSome=true→x.d∈Qs0 its):=by
 intro its
 induction its with
 | nil=>intro i x fl nf h;simp at h
 | cons it its ih=>
  intro i x fl nf h
  cases i with
  | zero=>
   simp at h;subst h
   refine⟨Q5,fun hs=>?_⟩
   rw [Qs0];split
   ·exact Q5
   rename_i he;rw [he]at hs;cases hs
  | succ i=>
   obtain⟨a,b⟩:=ih (i:=i) (by simpa using h)
   cases it with
   | add y fl' nf'=>
    refine⟨Qab _ a,fun hs=>?_⟩
    rw [Qs0];split
    ·exact Qab _ (b hs)
    exact b hs
   | tn M=>exact⟨a,b⟩
theorem QzK : ∀{its:List It},(QpY its).Nodup→∀{i k:Nat} {x y:DF} {fl fl' nf nf':Bool},its[i]? = some (.add x fl nf)→its[k]? = some (.add y fl' nf')→x.d=y.d→i=k:=by
 intro its
 induction its with
 | nil=>intro _ i k x y fl fl' nf nf' h;simp at h
 | cons it its ih=>
  intro hn i k x y fl fl' nf nf' hi hk e
  cases it with
  | tn M=>
   cases i with
   | zero=>simp at hi
   | succ i=>cases k with
    | zero=>simp at hk
    | succ k=>rw [ih hn (i:=i) (k:=k) (by simpa using hi) (by simpa using hk) e]
  | add z f g=>
   rw [QpY,Qdo]at hn
   cases i with
   | zero=>
    cases k with
    | zero=>rfl
    | succ k=>
     simp at hi;obtain⟨rfl,rfl,rfl⟩:=hi
     exact absurd (by rw [e];exact(Qs1 (i:=k) (by simpa using hk)).1) hn.1
   | succ i=>
    cases k with
    | zero=>
     simp at hk;obtain⟨rfl,rfl,rfl⟩:=hk
     exact absurd (by rw [←e];exact(Qs1 (i:=i) (by simpa using hi)).1) hn.1
    | succ k=>rw [ih hn.2 (i:=i) (k:=k) (by simpa using hi) (by simpa using hk) e]
theorem QC7 {M:Mut}{B:St}{t:Nat}{v:V}(h:look (M.run B).fr t=some v):(∃u,look B.fr t=some u)∨∃u,M.put=some (t,u):=by
 have kill:∀{l:List Nat} {B:St} {v:V},look (B.killL l).fr t=some v→∃u,look B.fr t=some u:=by
  intro l
  induction l with
  | nil=>intro B v h;exact⟨v,h⟩
  | cons b l ih=>
   intro B v h
   obtain⟨u,hu⟩:=ih h
   have hu:look (Qje b B.fr) t=some u:=hu
   rw [QnX]at hu
   obtain⟨w,hw,_⟩:=Qaq.1 hu
   exact⟨w,hw⟩
 unfold Mut.run at h
 split at h
 ·rw [Qx0]at h;exact .inl (kill h)
 rename_i d u hp
 by_cases e:d=t
 ·subst e;exact .inr ⟨u,hp⟩
 have h:look ((d,u)::((B.killL M.kills).sets M.sets).fr) t=some v:=h
 rw [Qr _ _ e,Qx0]at h;exact .inl (kill h)
theorem QB7 {M:Mut}{B:St}{p:Nat}{ob:Ob}(h:look (M.run B).hp p=some ob):(∃u,look B.hp p=some u)∨p∈M.sets.map Prod.fst:=by
 have kill:∀{l:List Nat} {B:St} {ob:Ob},look (B.killL l).hp p=some ob→∃u,look B.hp p=some u:=by
  intro l
  induction l with
  | nil=>intro B ob h;exact⟨ob,h⟩
  | cons b l ih=>
   intro B ob h
   obtain⟨u,hu⟩:=ih h
   have hu:look (QfH b B.hp) p=some u:=hu
   rw [Qk5]at hu
   split at hu
   ·cases hu
   obtain⟨w,hw,_⟩:=Qaq.1 hu
   exact⟨w,hw⟩
 have sets:∀{l:List (Nat×Ob)} {B:St} {ob:Ob},look (B.sets l).hp p=some ob→(∃u,look B.hp p=some u)∨p∈l.map Prod.fst:=by
  intro l
  induction l with
  | nil=>intro B ob h;exact .inl ⟨ob,h⟩
  | cons q l ih=>
   intro B ob h
   by_cases e:q.1=p
   ·exact .inr (by rw [QaZ,e];exact Q5)
   have h:look ((B.sets l).set q.1 q.2).hp p=some ob:=h
   rw [St.look_set_other _ _ e]at h
   exact(ih h).imp id (Qab _)
 have h1:look ((B.killL M.kills).sets M.sets).hp p=some ob:=by
  unfold Mut.run at h
  split at h<;>exact h
 rcases sets h1 with⟨u,hu⟩|h2
 ·exact .inl (kill hu)
 exact .inr h2
theorem QC8 : ∀{ms:List Mut} {B:St} {t:Nat} {v:V},look (bof B ms).fr t=some v→(∃u,look B.fr t=some u)∨t∈Qkv ms:=by
 intro ms
 induction ms with
 | nil=>intro B t v h;exact .inl ⟨v,h⟩
 | cons M ms ih=>
  intro B t v h
  rcases ih h with⟨u,hu⟩|h
  ·rcases QC7 hu with h | ⟨u,hp⟩
   ·exact .inl h
   refine .inr ?_;rw [Qkv,hp];exact Q5
  refine .inr ?_;rw [Qkv];split
  ·exact Qab _ h
  exact h
theorem QB8 : ∀{ms:List Mut} {B:St} {p:Nat} {ob:Ob},look (bof B ms).hp p=some ob→(∃u,look B.hp p=some u)∨p∈QzH ms:=by
 intro ms
 induction ms with
 | nil=>intro B p ob h;exact .inl ⟨ob,h⟩
 | cons M ms ih=>
  intro B p ob h
  rcases ih h with⟨u,hu⟩|h
  ·rcases QB7 hu with h | h
   ·exact .inl h
   exact .inr (Qok _ h)
  exact .inr (QwR _ h)
theorem QAw : ∀{ms:List Mut} {n t:Nat},t∈Qkv (ms.take n)→t∈Qkv ms:=by
 intro ms
 induction ms with
 | nil=>intro n t h;simpa using h
 | cons M ms ih=>
  intro n t h
  cases n with
  | zero=>simp [Qkv]at h
  | succ n=>
   rw [List.take_succ_cons,Qkv]at h
   rw [Qkv]
   split at h
   ·rcases Qaa.1 h with rfl | h
    ·exact Q5
    exact Qab _ (ih h)
   exact ih h
def QF0 (base:St)(its:List It)(listed:Array Bool)(σ:St):Prop:=∃j,j≤(Q7 its).length∧(∀p M,its[p]? = some (.tn M)→(listed[p]? = some true↔j0 its p<j))∧Sub σ (bof base ((Q7 its).take j))∧
 ∀i x fl nf,its[i]? = some (.add x fl nf)→(listed[i]? = some true→Qnh σ x fl (((Q7 its).take j).drop (j0 its i)))∧(listed[i]? ≠ some true→x.ob.isSome=true→look σ.hp x.d=none)
def QC9 (its:List It)(i:Nat):Bool:=match its[i]? with
 | some (.add _ true false)=>true
 | _=>false
def QEy (ops:Array Oper)(its:List It)(p:Nat):Bool:=Qw4 its p&&Nat.beq (j0 its p+1) (Q7 its).length&&(List.range its.length).all fun i=>!QC9 its i||QjK ops 8 i p
def Qx2 (ops:Array Oper)(its:List It)(ms:List Mut)(S:St):Bool:=Qup ms S||(Qup (ms.take (ms.length-1)) S&&(List.range its.length).any (QEy ops its))
theorem AK.drawV {id:Nat}(hmix:P.follows .mixedOrders=true)(hlen:its.length=ops.size)(hord:QxX ops=true)(hov:QC6 ops its=true)(hap:QzI base its=true)(hsv:QBm ops its=true)(hfk:Qr7 (Q7 its) its=true)(hsk:Qx2 ops its (Q7 its) S=true)(hS:Sub base S)
  (steps:∀i o it,ops[i]? = some o→its[i]? = some it→Qr8 P C ops base S its i o it)
  (k:∀σ,Sub σ (bof base (Q7 its))→(∀i x fl nf,its[i]? = some (.add x fl nf)→Qnh σ x fl ((Q7 its).drop (j0 its i)))→AK P C Q (.x .normal) ks σ):AK P C Q (.c (.region id ops true)) ks base:=by
 simp only [QzI,Qz,Qac,Qfg]at hap
 obtain⟨⟨hnd,hd1⟩,hd2⟩:=hap
 have hnd:=Qcb.1 hnd
 have ord:∀i p it M,its[i]? = some it→its[p]? = some (.tn M)→p≠i→(∀x,it≠.add x true false)→(p<i→QjK ops 8 p i=true)∧(i<p→QjK ops 8 i p=true):=by
  intro i p it M hi hp hne hnf
  have hil:=(QQ.1 hi).1
  have hpl:=(QQ.1 hp).1
  unfold QC6 at hov
  rw [Qac]at hov
  have h1:=hov i (QiD.2 hil)
  rw [Qac]at h1
  have h2:=h1 p (QiD.2 hpl)
  have hm:Qw4 its p=true:=by unfold Qw4;rw [hp]
  have hb:Nat.beq p i=false:=by cases hb:Nat.beq p i with
   | true=>exact absurd (QaM hb) hne
   | false=>rfl
  rw [hm,hb,hi]at h2
  simp only [Qoh,Bool.false_or]at h2
  have h3:(bif Nat.ble (p+1) i then QjK ops 8 p i else QjK ops 8 i p)=true:=by
   cases it with
   | add x fl nf=>cases fl with
    | true=>cases nf with
     | false=>exact absurd rfl (hnf x)
     | true=>exact h2
    | false=>exact h2
   | tn M=>exact h2
  refine⟨fun h=>?_,fun h=>?_⟩
  ·rw [show Nat.ble (p+1) i=true from QqX h]at h3;exact h3
  have:Nat.ble (p+1) i=false:=by cases hc:Nat.ble (p+1) i with
   | true=>have:=Qb8 hc;omega
   | false=>rfl
  rw [this]at h3;exact h3
 have sets:∀(i p:Nat) (x:DF) (fl nf:Bool) (M:Mut),its[i]? = some (.add x fl nf)→its[p]? = some (.tn M)→x.ob.isSome=true→x.d∈M.sets.map Prod.fst→QjK ops 8 i p=true:=by
  intro i p x fl nf M hi hp hob hmem
  have hil:=(QQ.1 hi).1
  have hpl:=(QQ.1 hp).1
  unfold QBm at hsv
  rw [Qac]at hsv
  have h1:=hsv i (QiD.2 hil)
  rw [Qac]at h1
  have h2:=h1 p (QiD.2 hpl)
  rw [hi,hp]at h2
  dsimp only at h2
  rw [Qkp.2 hmem]at h2
  have:x.ob.isNone=false:=by cases hx:x.ob with
   | none=>rw [hx]at hob;cases hob
   | some=>rfl
  rw [this]at h2
  simpa using h2
 have memSets:∀{ms:List Mut} {d:Nat},d∈QzH ms→∃(c:Nat) (M:Mut),ms[c]? = some M∧d∈M.sets.map Prod.fst:=by
  intro ms
  induction ms with
  | nil=>intro d h;cases h
  | cons N ms ih=>
   intro d h
   rcases Qco.1 h with h | h
   ·exact⟨0,N,rfl,h⟩
   obtain⟨c,M,h1,h2⟩:=ih h;exact⟨c+1,M,by simpa using h1,h2⟩
 refine AK.regionInv (QF0 base its) hmix ?_ hord ?_ ?_
 ·intro listed σ i o hs hd hi ho ⟨j,hj,hmu,hsub,hadd⟩
  obtain⟨o',ho',hl,hdeps⟩:=(Qm1 hs).1 hi
  rw [ho]at ho';cases ho'
  have hio:i<ops.size:=(Qhw.1 ho).1
  have hil:i<its.length:=by omega
  have hin:i<listed.size:=by omega
  obtain⟨it,hit⟩:∃it,its[i]? = some it:=⟨_,QD hil⟩
  have hnl:listed[i]? ≠ some true:=by rw [hl];simp
  have hst:=steps i o it ho hit
  have depsL:∀{q:Nat},QlM o q=true→listed[q]? = some true:=fun hdep=>by
   simp only [QlM,Qm8,Qz]at hdep
   obtain⟨e,he,hb,hon⟩:=hdep
   have:=hdeps e (Qwa.1 he) hb
   rwa [QaM hon]at this
  have stage:(∀x,it≠.add x true false)→j=j0 its i:=by
   intro hnf
   apply Nat.le_antisymm
   ·rcases QdB (j0 its i) j with hlt | h
    ·obtain⟨p,M,hp,hpj⟩:=Qvo (its:=its) (c:=j0 its i) (by omega)
     have hpl:listed[p]? = some true:=(hmu p M hp).2 (by omega)
     rcases Nat.lt_trichotomy p i with h | h | h
     ·have:=QBp hp h;omega
     ·subst h;exact absurd hpl hnl
     have hm:=(ord i p it M hit hp (by omega) hnf).2 h
     exact absurd (Qkw hd 8 hm hpl) hnl
    exact h
   rcases Nat.eq_zero_or_pos (j0 its i)with h | h
   ·omega
   have hle:j0 its i≤(Q7 its).length:=by
    have h1:=Qzi (its:=its) (show i≤its.length by omega)
    have h2:j0 its its.length=(Q7 its).length:=by unfold j0;rw [Qk3]
    omega
   obtain⟨p,M,hp,hpj⟩:=Qvo (its:=its) (c:=j0 its i-1) (by omega)
   have hpi:p<i:=by
    rcases Nat.lt_trichotomy p i with h' | h' | h'
    ·exact h'
    ·subst h';omega
    have:=Qzi (its:=its) (Nat.le_of_lt h');omega
   have hm:=(ord i p it M hit hp (by omega) hnf).1 hpi
   have:=(hmu p M hp).1 (Qv4 hs hd hm hi)
   omega
  have Qjb:∀q,(listed.setIfInBounds i true)[q]? = some true↔q=i∨listed[q]? = some true:=fun q=>by
   by_cases e:i=q
   ·subst e;simp [QrF,hin]
   rw [Qzk e];simp [Ne.symm e]
  cases it with
  | tn M=>
   have hjj:=stage fun x e=>by cases e
   subst hjj
   have hM:=QBn hit
   have hos:QbS P C ops o σ (M.run σ):=hst σ hsub fun q y fl nf hq hdep=>(hadd q y fl nf hq).1 (depsL hdep)
   refine⟨_,hos,j0 its i+1,by have:=QzJ hit;omega,fun p M' hp=>?_,?_,fun q y fl nf hq=>⟨fun hql=>?_,fun hql hob=>?_⟩⟩
   ·rw [Qjb]
    constructor
    ·rintro (rfl | h)
     ·omega
     have:=(hmu p M' hp).1 h;omega
    intro h
    rcases QdB (j0 its p) (j0 its i)with h1 | h1
    ·exact .inr ((hmu p M' hp).2 h1)
    left
    rcases Nat.lt_trichotomy p i with h' | h' | h'
    ·have:=QBp hp h';omega
    ·exact h'
    have:=QBp hit h';omega
   ·rw [hM.2,Qw5];exact hsub.run M
   ·rcases(Qjb q).1 hql with rfl | hql
    ·rw [hit]at hq;cases hq
    cases fl with
    | true=>
     have all:∀{l:List It} {ms:List Mut},Qr7 ms l=true→∀{q:Nat} {y:DF} {nf:Bool},l[q]? = some (.add y true nf)→ms.all (Qzh y)=true:=by
      intro l
      induction l with
      | nil=>intro ms _ q y nf h;simp at h
      | cons it l ih=>
       intro ms h q y nf hq
       cases it with
       | add z f g=>
        rw [Qr7,Qz]at h
        cases q with
        | zero=>simp at hq;obtain⟨rfl,rfl,rfl⟩:=hq;simpa using h.1
        | succ q=>exact ih h.2 (by simpa using hq)
       | tn M=>
        cases q with
        | zero=>simp at hq
        | succ q=>exact ih h (by simpa using hq)
     have h1:=all hfk hq
     rw [Qac]at h1
     have h2:=(hadd q y true nf hq).1 hql
     exact Qnh.of (QBo (h1 M (QaL hM.1)) ⟨h2.1 rfl,h2.2 rfl⟩)
    | false=>
     have hle:j0 its q≤j0 its i:=by
      rcases QdB i q with h | h
      ·have hm:=(ord q i _ M hq hit (by omega) (fun x e=>by cases e)).1 h
       exact absurd (Qkw hd 8 hm hql) hnl
      exact Qzi h
     rw [hM.2,List.drop_append_of_le_length (by simp;have:=QzJ hit;omega)]
     exact((hadd q y false nf hq).1 hql).run
   have hqi:q≠i:=fun e=>by subst e;rw [hit]at hq;cases hq
   have hql':listed[q]? ≠ some true:=fun h=>hql ((Qjb q).2 (.inr h))
   refine Mut.none_look ?_ ((hadd q y fl nf hq).2 hql' hob)
   rw [Qac]
   intro r hr
   cases hb:Nat.beq r.1 y.d with
   | false=>rfl
   | true=>
    have hm:=sets q i y fl nf M hq hit hob (by rw [←QaM hb];exact Qvi hr)
    exact absurd (Qv4 hs hd hm hi) hql'
  | add x fl nf=>
   have hfresh:x.ob.isSome=true→look σ.hp x.d=none:=(hadd i x fl nf hit).2 hnl
   have hos:QbS P C ops o σ (σ.addF x):=by
    have hB:¬(fl=true∧nf=false)→(∀σ,Sub σ (bof base ((Q7 its).take (j0 its i)))→(∀k y fl nf,its[k]? = some (.add y fl nf)→QlM o k=true→Qnh σ y fl (((Q7 its).take (j0 its i)).drop (j0 its k)))→(x.ob.isSome=true→look σ.hp x.d=none)→QbS P C ops o σ (σ.addF x))→QbS P C ops o σ (σ.addF x):=fun hne hst=>by
     have hjj:=stage fun y e=>by cases e;exact hne ⟨rfl,rfl⟩
     subst hjj
     exact hst σ hsub (fun q y fl nf hq hdep=>(hadd q y fl nf hq).1 (depsL hdep)) hfresh
    cases fl with
    | true=>cases nf with
     | false=>
      have h1:Sub base S:=hS
      have h2:Sub (bof base ((Q7 its).take j)) S:=by
       unfold Qx2 at hsk
       rw [QdN]at hsk
       rcases hsk with hsk | hsk
       ·exact Sub.stable hsk h1 j
       rw [Qz,Qm8]at hsk
       obtain⟨hs1,p,_,hp⟩:=hsk
       unfold QEy at hp
       simp only [Qz]at hp
       obtain⟨⟨p1,p2⟩,p3⟩:=hp
       have hjm:j≤(Q7 its).length-1:=by
        rcases QdB ((Q7 its).length-1) j with hlt | h
        ·exfalso
         obtain⟨M,hM⟩:∃M,its[p]? = some (.tn M):=by
          unfold Qw4 at p1
          split at p1
          ·exact⟨_,‹_›⟩
          cases p1
         have p2:=QaM p2
         have hpl:=(hmu p M hM).2 (by omega)
         have h3:=Qac.1 p3 i (QiD.2 hil)
         have hf:QC9 its i=true:=by unfold QC9;rw [hit]
         rw [hf]at h3
         exact absurd (Qkw hd 8 h3 hpl) hnl
        exact h
       have h4:=Sub.stable hs1 h1 j
       rwa [List.take_take,QpI hjm]at h4
      exact hst σ ⟨fun t v h=>hsub.1 t v (h2.1 t v h),fun p ob h=>hsub.2 p ob (h2.2 p ob h)⟩ (fun q y nf hq hdep=>let h2:=(hadd q y true nf hq).1 (depsL hdep);⟨h2.1 rfl,h2.2 rfl⟩) hfresh
     | true=>exact hB (fun e=>by cases e.2) hst
    | false=>exact hB (fun e=>by cases e.1) hst
   obtain⟨hmd,hmo⟩:=Qs1 hit
   have frK:∀t v,t≠x.d→look σ.fr t=some v→look (σ.addF x).fr t=some v:=by
    intro t v hne h
    unfold St.addF
    split
    ·show look ((x.d,x.v)::σ.fr) t=some v
     rw [Qr _ _ (Ne.symm hne)];exact h
    show look ((x.d,x.v)::σ.fr) t=some v
    rw [Qr _ _ (Ne.symm hne)];exact h
   have hpK:∀p,(p≠x.d∨x.ob=none)→look (σ.addF x).hp p=look σ.hp p:=by
    intro p hne
    unfold St.addF
    split
    ·rfl
    rename_i ob hob
    rcases hne with hne | hne
    ·exact σ.look_set_other _ (Ne.symm hne)
    rw [hob]at hne;cases hne
   refine⟨_,hos,j,hj,fun p M hp=>?_,⟨fun t v h=>?_,fun p ob h=>?_⟩,fun q y fl' nf' hq=>⟨fun hql=>?_,fun hql hob=>?_⟩⟩
   ·rw [Qjb,←hmu p M hp]
    have:p≠i:=fun e=>by subst e;rw [hit]at hp;cases hp
    simp [this]
   ·refine frK t v (fun e=>?_) (hsub.1 t v h)
    subst e
    have h1:=hd1 _ hmd
    rcases QC8 h with⟨u,hu⟩|h2
    ·rw [QpR hu]at h1;cases h1.1
    rw [Qkp.2 (QAw h2)]at h1;cases h1.2
   ·have hne:p≠x.d∨x.ob=none:=by
     cases hob:x.ob with
     | none=>exact .inr rfl
     | some ob'=>
      refine .inl fun e=>?_
      subst e
      have hob':x.ob.isSome=true:=by rw [hob];rfl
      have h1:=hd2 _ (hmo hob')
      rcases QB8 h with⟨u,hu⟩|h2
      ·rw [QpR hu]at h1;cases h1
      obtain⟨c,M,h3,h4⟩:=memSets h2
      have hc:c<j:=by
       have:=(QQ.1 h3).1
       simp at this;omega
      have h3':(Q7 its)[c]? = some M:=by rw [List.getElem?_take_of_lt hc]at h3;exact h3
      obtain⟨p',M',hp',hpc⟩:=Qvo (its:=its) (c:=c) (QQ.1 h3').1
      have h5:=(QBn hp').1
      rw [hpc,h3']at h5;cases h5
      have hm:=sets i p' x fl nf M hit hp' hob' h4
      exact absurd (Qkw hd 8 hm ((hmu p' M hp').2 (by omega))) hnl
    rw [hpK p hne];exact hsub.2 p ob h
   ·by_cases e:q=i
    ·subst e
     rw [hit]at hq;cases hq
     refine Qnh.of ⟨?_,fun ob hob=>?_⟩
     ·unfold St.addF
      split<;>exact Qu _ _ _
     unfold St.addF
     rw [hob];exact Qu _ _ _
    have hql':listed[q]? = some true:=((Qjb q).1 hql).resolve_left e
    obtain⟨h1,h2⟩:=(hadd q y fl' nf' hq).1 hql'
    have hne:y.d≠x.d:=fun h=>e (QzK hnd hq hit h)
    exact⟨fun hal=>frK _ _ hne (h1 hal),fun hal ob hob=>by rw [hpK _ (.inl hne)];exact h2 hal ob hob⟩
   have e:q≠i:=fun e=>hql ((Qjb q).2 (.inl e))
   have hql':listed[q]? ≠ some true:=fun h=>hql ((Qjb q).2 (.inr h))
   have hne:y.d≠x.d:=fun h=>e (QzK hnd hq hit h)
   rw [hpK _ (.inl hne)];exact(hadd q y fl' nf' hq).2 hql' hob
 ·refine⟨0,Nat.zero_le _,fun p M _=>by simp [Array.getElem?_replicate],⟨fun _ _ h=>h,fun _ _ h=>h⟩,fun i x fl nf hi=>⟨fun h=>by simp [Array.getElem?_replicate]at h,fun _ hob=>?_⟩⟩
  have h1:=hd2 _ ((Qs1 hi).2 hob)
  cases h:look base.hp x.d with
  | none=>rfl
  | some ob=>rw [QpR h]at h1;cases h1
 intro listed σ hs hall ⟨j,hj,hmu,hsub,hadd⟩
 have hjt:j=(Q7 its).length:=by
  rcases QdB j (Q7 its).length with h | h
  ·obtain⟨p,M,hp,hpj⟩:=Qvo (its:=its) h
   have:=(hmu p M hp).1 (hall p (by have:=(QQ.1 hp).1;omega))
   omega
  omega
 subst hjt
 rw [Qk3]at hsub
 refine k σ hsub fun i x fl nf hi=>?_
 have:=(hadd i x fl nf hi).1 (hall i (by have:=(QQ.1 hi).1;omega))
 rwa [Qk3]at this
end
inductive MD where
 | s
 | st (r:List V) (rs:List (List V))
 | app (rs:List (List V)) (m:Nat)
 | any (M:Mut)
 | cm (en:Ent) (M N:List (Nat×Nat)) (dead:List Nat) (ms:List Qgh) (outs:List (Nat×Ob)) (r:V) (same:List Nat)
inductive Dw where
 | a (h:Qkt) (sv:Option (List (Option Nat)×V)) (fl:Bool) (nf:Bool:=false)
 | m (md:MD)
def QDa (P:Program)(T:Tab)(f:Operand→Option V)(hp:Nat→Option Ob)(c:Call):Ent→Option (Nat×List V×Prop)
 | .fn=>match c.callee with
  | .value (.func g)=>bif Q8 T.en g then match evs f c.args.toList with
   | some vs=>some (g,vs,True)
   | none=>none
   else none
  | _=>none
 | .clo=>match c.callee with
  | .value x=>match f x with
   | some (.clo (.func g) fs cs)=>bif Q8 T.en g then match evs f c.args.toList with
    | some vs=>some (g,fs++(vs++cs),True)
    | none=>none
    else none
   | _=>none
  | _=>none
 | .me g=>match c.callee with
  | .invoke x name=>match f x with
   | some (.ifc t u)=>bif Q8 T.en g then match evs f c.args.toList with
    | some vs=>some (g,u::vs,(Qnf P t name=some (g,true)∧Qzt P t=true)∨(Qnf P t name=some (g,false)∧Quh P t=true))
    | none=>none
    else none
   | _=>none
  | _=>none
 | .mv g e=>match c.callee with
  | .invoke x name=>match f x with
   | some (.ifc t (.loc b 0 off))=>match hp b with
    | some (.var cs)=>match cs[off]? with
     | some r=>bif Q8 T.en g then match evs f c.args.toList with
      | some vs=>some (g,r::vs,Qnf P t name=some (g,false)∧QwZ P t e=true∧Qhx P e=some false)
      | none=>none
      else none
     | none=>none
    | _=>none
   | _=>none
  | _=>none
theorem QBq {P:Program}{C:Ctx}{T:Tab}{f:Operand→Option V}{hp:Nat→Option Ob}{o:Oper}{c:Call}{en:Ent}{g:Nat}{vs:List V}{ψ:Prop}{σ:St}(ok:QdO P T)(ho:o.op=.call c)(e:QDa P T f hp c en=some (g,vs,ψ))(hφ:ψ)
  (h1:∀x u,f x=some u→σ.opd x=some u) (h2:∀b u,hp b=some u→look σ.hp b=some u):QbW P C o σ g vs:=by
 obtain⟨ce,ags,ts⟩:=c
 unfold QDa at e
 split at e
 ·split at e
  ·rename_i f' hc
   dsimp only at hc;subst hc
   replace e:=Qag e;obtain⟨e1,e⟩:=e
   split at e
   ·rename_i vs' hv;cases e;exact QbW.fn ho (ok.en e1) (QeK h1 hv)
   cases e
  cases e
 ·split at e
  ·rename_i x hc
   dsimp only at hc;subst hc
   split at e
   ·rename_i f' fs cs hx
    replace e:=Qag e;obtain⟨e1,e⟩:=e
    split at e
    ·rename_i vs' hv;cases e;exact QbW.clo ho (h1 _ _ hx) (ok.en e1) (QeK h1 hv)
    cases e
   cases e
  cases e
 ·split at e
  ·rename_i x name hc
   dsimp only at hc;subst hc
   split at e
   ·rename_i t u hx
    replace e:=Qag e;obtain⟨e1,e⟩:=e
    split at e
    ·rename_i vs' hv;cases e;exact QbW.meth (r:=u) ho (h1 _ _ hx) hφ (ok.en e1) (QeK h1 hv)
    cases e
   cases e
  cases e
 split at e
 ·rename_i x name hc
  dsimp only at hc;subst hc
  split at e
  ·rename_i t b off hx
   split at e
   ·rename_i cs hb
    split at e
    ·rename_i r hr0
     replace e:=Qag e;obtain⟨e1,e⟩:=e
     split at e
     ·rename_i vs' hv;cases e;exact QbW.methV ho (h1 _ _ hx) hφ.1 hφ.2.1 hφ.2.2 (h2 _ _ hb) hr0 (ok.en e1) (QeK h1 hv)
     cases e
    cases e
   cases e
  cases e
 cases e
theorem Qyy {bk:Nat→Option Nat}{hp hp':Nat→Option Ob}(h:∀b u,hp b=some u→hp' b=some u):∀{M:List (Nat×Nat)} {l:List (Nat×Ob)},Qic bk hp M=some l→Qic bk hp' M=some l:=by
 intro M
 induction M with
 | nil=>intro l e;exact e
 | cons p M ih=>
  obtain⟨d,s⟩:=p
  intro l e
  rw [Qic]at e ⊢
  split at e
  ·rename_i ob hob
   split at e
   ·rename_i ob' hob'
    split at e
    ·rename_i l' hl
     simp only [h _ _ hob,hob',ih hl];exact e
    cases e
   cases e
  cases e
theorem Qw6 {σ:St}{M N:List (Nat×Nat)}{dead:List Nat}{outs:List (Nat×Ob)}(h:Qdf ⟨[],N.map fun p=>(p.1,Ob.itr0)⟩ M N dead outs=true):Qdf σ M N dead outs=true:=by
 simp only [Qdf,Qz,Qac]at h ⊢
 obtain⟨⟨h1,h2⟩,h3⟩:=h
 refine⟨⟨h1,h2⟩,fun p hp=>⟨⟨?_,(h3 p hp).1.2⟩,(h3 p hp).2⟩⟩
 have hn:∀{l:List (Nat×Nat)},p∈l→(look (l.map fun p=>(p.1,Ob.itr0)) p.1).isNone=false:=by
  intro l hp
  induction l with
  | nil=>cases hp
  | cons q l ih=>
   show(look ((q.1,Ob.itr0)::l.map fun p=>(p.1,Ob.itr0)) p.1).isNone=false
   by_cases e:q.1=p.1
   ·rw [e,Qu];rfl
   rw [Qr _ _ e]
   refine ih ?_
   rcases Qaa.1 hp with h | h
   ·exact absurd (congrArg Prod.fst h).symm e
   exact h
 have h4:=(h3 p hp).1.1
 rw [hn hp,Bool.or_false]at h4
 rw [h4];rfl
theorem Qpu {σ:St}(dead:List Nat):∀(l:List (Nat×Ob)),(σ.killL dead).sets l=σ.after dead l:=by
 intro l
 induction l with
 | nil=>rfl
 | cons p l ih=>rw [St.sets,ih];rfl
def QBr (hp:Nat→Option Ob)(hsN:List (Nat×Ob)):List Nat→Prop
 | []=>True
 | b::r=>hp b=look hsN b∧QBr hp hsN r
theorem QB9 {hp:Nat→Option Ob}{hsN:List (Nat×Ob)}:∀{l:List Nat},QBr hp hsN l→∀b,Q8 l b=true→hp b=look hsN b:=by
 intro l
 induction l with
 | nil=>intro _ b h;cases h
 | cons a l ih=>
  intro h b hb
  rw [Q8]at hb
  cases e:Nat.beq a b with
  | true=>rw [←QaM e];exact h.1
  | false=>rw [e]at hb;exact ih h.2 b (by simpa using hb)
theorem QAx {same:List Nat}:∀{l:List (Nat×Ob)} {b:Nat},look (l.filter fun p=>!(Q8 same p.1)) b=if Q8 same b=true then none else look l b:=by
 intro l
 induction l with
 | nil=>intro b;simp [look]
 | cons p l ih=>
  intro b
  rw [Qm9]
  by_cases e:p.1=b
  ·subst e
   cases h:Q8 same p.1 with
   | true=>
    simp only [Qoh,Bool.false_eq_true,if_false]
    rw [ih,h];simp
   | false=>
    simp only [Bool.not_false,if_true,Bool.false_eq_true,if_false]
    obtain⟨k,v⟩:=p
    rw [Qu,Qu]
  cases h:Q8 same p.1 with
  | true=>
   simp only [Qoh,Bool.false_eq_true,if_false]
   rw [ih,Qr (k:=p.1) p.2 l e]
  | false=>
   simp only [Bool.not_false,if_true]
   rw [Qr (k:=p.1) p.2 _ e,ih,Qr (k:=p.1) p.2 l e]
theorem R.congrHp {C:Ctx}{σ σ':St}(hf:σ'.fr=σ.fr)(hh:∀o,look σ'.hp o=look σ.hp o){a:Act}{w:World}(hR:R C σ a w):R C σ' a w:=by
 obtain⟨φ,h⟩:=hR
 exact⟨φ,h.os,h.tape,h.output,h.size,h.kept,h.inj,fun o B hB=>by rw [hh];exact h.dom o B hB,h.lt,h.new,⟨h.stay.1,fun o ob B h1 h2 h3=>h.stay.2 o ob B h1 (by rw [←hh];exact h2) h3⟩,h.tmps,h.defers,fun t v hv=>h.frame t v (by rw [←hf];exact hv),fun o ob hob=>h.heap o ob (by rw [←hh];exact hob)⟩
def mu1 (P:Program)(C:Ctx)(T:Tab)(n:Nat)(md:MD)(o:Oper)(f:Operand→Option V)(hp:Nat→Option Ob):Option (Mut×Option Prop):=match md with
 | .cm en M N dead ms outs r same=>match o.dst with
  | some d=>match o.op with
   | .call c=>bif Qdf ⟨[],N.map fun p=>(p.1,Ob.itr0)⟩ M N dead outs&&Qgf (M.map Prod.fst)&&Qgf (N.map Prod.fst)&&Nat.ble (d+1) n then match QDa P T f hp c en with
    | some (g,vs,ψ)=>match Qms (bkM M) ms vs with
     | some us=>match Qic (bkM M) hp M with
      | some hsC=>match Qic (bkM N) (look outs) N with
       | some hsN=>match trV (bkM N) r with
        | some r'=>match same with
         | []=>some (⟨dead,hsN,some (d,r')⟩,some (ψ∧Qd P g us hsC (Gives r outs)))
         | _=>match dead with
          | []=>some (⟨[],hsN.filter (fun p=>!(Q8 same p.1)),some (d,r')⟩,some ((ψ∧Qd P g us hsC (Gives r outs))∧QBr hp hsN same))
          | _=>none
        | none=>none
       | none=>none
      | none=>none
     | none=>none
    | none=>none
    else none
   | _=>none
  | none=>none
 | .any M=>some (M,some (∀σ:St,(∀x u,f x=some u→σ.opd x=some u)→(∀b u,hp b=some u→look σ.hp b=some u)→Stp P C o σ (M.run σ)))
 | .s=>match o.dst with
  | some d=>match o.op with
   | .assign x=>match f x with
    | some v=>bif Nat.ble (d+1) n then some (⟨[],[],some (d,v)⟩,none)else none
    | none=>none
   | .move x=>match f x with
    | some v=>bif Nat.ble (d+1) n then some (⟨[],[],some (d,v)⟩,none)else none
    | none=>none
   | _=>none
  | none=>match o.op with
   | .store Tx x y=>match f x with
    | some (.loc b i off)=>match f y with
     | some v=>match hp b with
      | some (.var cs)=>match i with
       | 0=>match look T.sz Tx with
        | some k=>bif v.isV&&Nat.beq v.cells.length k&&v.cells.all V.one&&Nat.ble (off+k) cs.length then some (⟨[],[(b,.var (QcJ cs off v.cells))],none⟩,none)else none
        | none=>none
       | _=>none
      | _=>none
     | none=>none
    | _=>none
   | _=>none
 | .st r rs'=>match o.dst with
  | some _=>none
  | none=>match o.op with
   | .store Tx x y=>match f x with
    | some (.loc b i off)=>match f y with
     | some v=>match hp b with
      | some (.arr z rs)=>match look T.sz Tx with
       | some k=>bif v.isV&&Nat.beq v.cells.length k&&v.cells.all V.one&&v.cells.all V.dat&&Nat.ble (off+k) z then some (⟨[],[(b,.arr z rs')],none⟩,some (rs[i]? = some r∧rs.set i (QcJ r off v.cells)=rs'))else none
       | none=>none
      | _=>none
     | none=>none
    | _=>none
   | _=>none
 | .app rs' m=>match o.dst with
  | some d=>match o.op with
   | .call c=>match c.callee with
    | .builtin .append=>match c.args.toList with
     | [x,y]=>match c.argTypes.toList with
      | [Tx,Ty]=>match f x with
       | some (.own b k)=>match f y with
        | some v=>match hp b with
         | some (.arr z rs)=>match look T.es Tx with
          | some (e,z',by_)=>match look T.zv e with
           | some zs=>bif (look T.es Ty).isSome&&Nat.ble (d+1) n&&!(Nat.ble 615 b)&&Nat.beq z z'&&Nat.beq zs.length z&&!(Nat.beq z 0)&&Nat.ble by_ 32768 then match v with
            | .sl z'' us=>bif Nat.beq z z'' then some (⟨[b],[(b,.arr z rs')],some (d,.own b m)⟩,some (rs.length=k∧decide (k+us.length≤4294967296)=true∧rs++us=rs'∧k+us.length=m))else none
            | _=>none
            else none
           | none=>none
          | none=>none
         | _=>none
        | none=>none
       | _=>none
      | _=>none
     | _=>none
    | _=>none
   | _=>none
  | none=>none
def Qop (obj:Bool)(o:Oper)(t:Nat)(fo:Bool)(ms:List Mut):List (It×Nat)→Nat→Option DF
 | (.add x fl _,j)::r,i+1=>bif Nat.beq x.d t&&QlM o i&&(bif fo then fl else bif obj then QrK x fl (ms.drop j)else alv x fl (ms.drop j))then some x else Qop obj o t fo ms r i
 | (.tn _,_)::r,i+1=>Qop obj o t fo ms r i
 | _,_=>none
def QpZ (B:St)(fo:Bool)(ms:List Mut)(ri:List (It×Nat))(i:Nat)(o:Oper):Operand→Option V
 | .tmp t=>match look B.fr t with
  | some v=>some v
  | none=>match Qop false o t fo ms ri i with
   | some x=>some x.v
   | none=>none
 | x=>B.opd x
def Qs2 (B:St)(fo:Bool)(ms:List Mut)(ri:List (It×Nat))(i:Nat)(o:Oper)(b:Nat):Option Ob:=match look B.hp b with
 | some ob=>some ob
 | none=>match Qop true o b fo ms ri i with
  | some x=>x.ob
  | none=>none
structure Dr where
 ri:List (It×Nat)
 ms:List Mut
 B:St
 φ:Prop
def QhA (P:Program)(C:Ctx)(T:Tab)(n:Nat)(ops:Array Oper)(S:St):List Dw→List Oper→Nat→List (It×Nat)→List Mut→St→Prop→Option Dr
 | [],_,_,ri,ms,B,φ=>some ⟨ri,ms,B,φ⟩
 | .a h sv fl nf::ds,o::l,i,ri,ms,B,φ=>match QfM ops o (fun t=>QpZ (bif fl&&!nf then S else B) (fl&&!nf) ms ri i o (.tmp t))with
  | some true=>match o.dst with
   | some d=>bif Nat.ble (d+1) n then match ev1 P C T h o d (QpZ (bif fl&&!nf then S else B) (fl&&!nf) ms ri i o) (Qs2 (bif fl&&!nf then S else B) (fl&&!nf) ms ri i o)with
    | some ⟨v,ob,q⟩=>match sv with
     | none=>QhA P C T n ops S ds l (i+1) ((.add ⟨d,v,ob⟩ fl nf,ms.length)::ri) ms B (QpV φ q)
     | some (mm,u)=>QhA P C T n ops S ds l (i+1) ((.add ⟨d,u,ob⟩ fl nf,ms.length)::ri) ms B (QpV φ q∧v.denil mm=u)
    | none=>none
    else none
   | none=>none
  | some false=>match o.dst with
   | some d=>bif Nat.ble (d+1) n then QhA P C T n ops S ds l (i+1) ((.add ⟨d,.lit undef,none⟩ fl nf,ms.length)::ri) ms B φ else none
   | none=>none
  | none=>none
 | .m md::ds,o::l,i,ri,ms,B,φ=>match QfM ops o (fun t=>QpZ B false ms ri i o (.tmp t))with
  | some true=>match mu1 P C T n md o (QpZ B false ms ri i o) (Qs2 B false ms ri i o)with
   | some (M,q)=>QhA P C T n ops S ds l (i+1) ((.tn M,ms.length)::ri) (ms++[M]) (M.run B) (QpV φ q)
   | none=>none
  | _=>none
 | _::_,[],_,_,_,_,_=>none
def QaO (ri:List (It×Nat)):List It:=(ri.map Prod.fst).reverse
section
variable {P:Program}{C:Ctx}{T:Tab}{Q:Exit→St→Prop}{n:Nat}{ops:Array Oper}{base S:St}{ks:List Fr}
theorem Qyz {md:MD}{o:Oper}{f:Operand→Option V}{hp:Nat→Option Ob}{M:Mut}{q:Option Prop}{σ:St}(ok:QdO P T)(hN:Qfi P C n)(e:mu1 P C T n md o f hp=some (M,q))(hq:match q with | none=>True | some p=>p)
  (h1:∀x u,f x=some u→σ.opd x=some u) (h2:∀b u,hp b=some u→look σ.hp b=some u):Stp P C o σ (M.run σ):=by
 have hn:=hN.n
 have hpg:=hN.g
 unfold mu1 at e
 cases md with
 | any M0=>cases e;exact hq σ h1 h2
 | cm en M0 N dead ms outs r same=>
  dsimp only at e
  split at e
  ·rename_i d hd
   split at e
   ·rename_i c ho
    replace e:=Qag e;obtain⟨e1,e⟩:=e
    simp only [Qz]at e1
    obtain⟨⟨⟨g1,g2⟩,g3⟩,g4⟩:=e1
    rw [←hn]at g4
    have g1:=Qw6 (σ:=σ) g1
    have g2:=Qcb.1 g2
    have g3:=Qcb.1 g3
    have inj:Qhy M0=true∧Qhy N=true:=by
     simp only [Qdf,Qz]at g1
     exact⟨g1.1.1.1,g1.1.1.2⟩
    have mM:∀a b,bkM M0 a=some b→look M0 b=some a:=fun a b h=>Qbl inj.1 (Qfj h) g2
    have mN:∀a b,bkM N a=some b→look N b=some a:=fun a b h=>Qbl inj.2 (Qfj h) g3
    split at e
    ·rename_i g vs ψ hent
     split at e
     ·rename_i us hus
      split at e
      ·rename_i hsC hC
       split at e
       ·rename_i hsN hN
        split at e
        ·rename_i r' hr
         have call:ψ∧Qd P g us hsC (Gives r outs)→Stp P C o σ ((σ.after dead hsN).put d r'):=fun hq=>
          Stp.callM (g:=false) (QBq (C:=C) ok ho hent hq.1 h1 h2) hd g4 hpg g1 g2 (Qhz mM hus) (QcD mM (Qyy h2 hC)) hq.2 (QcD mN hN) (Qku mN hr)
         split at e
         ·cases e
          unfold Mut.run
          dsimp only
          rw [Qpu];exact call hq
         split at e
         ·cases e
          obtain⟨hq1,hq2⟩:=hq
          intro a w hR K Q hK
          refine call hq1 a w hR K Q fun a' w' hR'=>hK a' w' (R.congrHp ?_ (fun o=>?_) hR')
          ·unfold Mut.run;dsimp only;rw [Qpu];rfl
          unfold Mut.run;dsimp only;rw [Qpu]
          show look (_++σ.hp) o=look (_++σ.hp) o
          rw [Qf0,Qf0,QAx]
          by_cases hm:Q8 same o=true
          ·rw [if_pos hm]
           have:=QB9 hq2 o hm
           cases hl:look hsN o with
           | none=>rfl
           | some ob=>rw [hl]at this;exact h2 o ob this
          rw [if_neg hm]
         cases e
        cases e
       cases e
      cases e
     cases e
    cases e
   cases e
  cases e
 | s=>
  dsimp only at e
  split at e
  ·rename_i d hd
   split at e
   ·rename_i x ho
    split at e
    ·rename_i v hv
     replace e:=Qag e;obtain⟨e1,e⟩:=e
     rw [←hn]at e1
     cases e;exact Stp.assign ho hd e1 (h1 _ _ hv)
    cases e
   ·rename_i x ho
    split at e
    ·rename_i v hv
     replace e:=Qag e;obtain⟨e1,e⟩:=e
     rw [←hn]at e1
     cases e;exact Stp.move ho hd e1 (h1 _ _ hv)
    cases e
   cases e
  rename_i hd
  split at e
  ·rename_i Tx x y ho
   split at e
   ·rename_i b i off hx
    split at e
    ·rename_i v hv
     split at e
     ·rename_i cs hb
      split at e
      ·split at e
       ·rename_i k hk
        replace e:=Qag e;obtain⟨e2,e⟩:=e
        cases e
        simp only [Qz]at e2
        obtain⟨⟨⟨a1,a2⟩,a3⟩,a4⟩:=e2
        exact Stp.storeL ho hd (h1 _ _ hx) (h2 _ _ hb) (h1 _ _ hv) (V.isV_or a1) (ok.sz hk) (QaM a2) a3 a4 rfl
       cases e
      cases e
     cases e
    cases e
   cases e
  cases e
 | st r rs'=>
  dsimp only at e
  split at e
  ·cases e
  rename_i hd
  split at e
  ·rename_i Tx x y ho
   split at e
   ·rename_i b i off hx
    split at e
    ·rename_i v hv
     split at e
     ·rename_i z rs hb
      split at e
      ·rename_i k hk
       replace e:=Qag e;obtain⟨e2,e⟩:=e
       cases e
       simp only [Qz]at e2
       obtain⟨⟨⟨⟨a1,a2⟩,a3⟩,a4⟩,a5⟩:=e2
       exact Stp.storeA ho hd (h1 _ _ hx) (h2 _ _ hb) hq.1 (h1 _ _ hv) (V.isV_or a1) (ok.sz hk) (QaM a2) a3 a4 a5 hq.2
      cases e
     cases e
    cases e
   cases e
  cases e
 | app rs' m=>
  dsimp only at e
  split at e
  ·rename_i d hd
   split at e
   ·rename_i c ho
    obtain⟨ce,ags,ts⟩:=c
    split at e
    ·rename_i hce
     dsimp only at hce e;subst hce
     split at e
     ·rename_i x y hxy
      split at e
      ·rename_i Tx Ty hT
       split at e
       ·rename_i b k hx
        split at e
        ·rename_i v hv
         split at e
         ·rename_i z rs hb
          split at e
          ·rename_i et z' by_ hes
           split at e
           ·rename_i zs hz
            replace e:=Qag e;obtain⟨e1,e⟩:=e
            simp only [Qz,Qfg]at e1
            obtain⟨⟨⟨⟨⟨⟨a1,a2⟩,a3⟩,a4⟩,a5⟩,a6⟩,a7⟩:=e1
            have a4:=QaM a4;subst a4
            have a5:=QaM a5
            have a6:z≠0:=fun h0=>by rw [h0]at a6;cases a6
            rw [←hn]at a2
            obtain⟨⟨e2,z2,by2⟩,hU⟩:∃q,Qaz P Ty=some q:=by
             cases hl:look T.es Ty with
             | none=>rw [hl]at a1;cases a1
             | some q=>exact⟨q,ok.es hl⟩
            have ea:ags=#[x,y]:=by rw [←Qua (xs:=ags),hxy]
            have et:ts=#[Tx,Ty]:=by rw [←Qua (xs:=ts),hT]
            subst ea;subst et
            split at e
            ·rename_i z'' us
             replace e:=Qag e;obtain⟨e3,e⟩:=e
             have:=QaM e3;subst this
             cases e
             obtain⟨h4,h5,h6,h7⟩:=hq
             exact Stp.appS ho hd a2 (h1 _ _ hx) (h2 _ _ hb) a3 h4 (ok.es hes) hU (ok.zv hz) a5 a6 a7 h5 (h1 _ _ hv) h6 h7
            cases e
           cases e
          cases e
         cases e
        cases e
       cases e
      cases e
     cases e
    cases e
   cases e
  cases e
theorem Quq {obj:Bool}{o:Oper}{t:Nat}{fo:Bool}{ms:List Mut}:∀{ri:List (It×Nat)} {i:Nat} {x:DF},i=ri.length→Qop obj o t fo ms ri i=some x→
  ∃k fl nf j,ri.reverse[k]? = some (.add x fl nf,j)∧QlM o k=true∧x.d=t∧(bif fo then fl else bif obj then QrK x fl (ms.drop j)else alv x fl (ms.drop j))=true:=by
 intro ri
 induction ri with
 | nil=>intro i x hi h;subst hi;cases h
 | cons y ri ih=>
  intro i x hi h
  subst hi
  have up:∀{x:DF},(∃k fl nf j,ri.reverse[k]? = some (.add x fl nf,j)∧QlM o k=true∧x.d=t∧(bif fo then fl else bif obj then QrK x fl (ms.drop j)else alv x fl (ms.drop j))=true)→∃k fl nf j,(y::ri).reverse[k]? = some (.add x fl nf,j)∧QlM o k=true∧x.d=t∧(bif fo then fl else bif obj then QrK x fl (ms.drop j)else alv x fl (ms.drop j))=true:=by
   rintro x ⟨k,fl,nf,j,h1,h2⟩
   refine⟨k,fl,nf,j,?_,h2⟩
   rw [List.reverse_cons,QbR (QQ.1 h1).1];exact h1
  obtain⟨it,j⟩:=y
  cases it with
  | tn M=>rw [QeU,Qop]at h;exact up (ih rfl h)
  | add z fl nf=>
   rw [QeU,Qop]at h
   cases hb:(Nat.beq z.d t&&QlM o ri.length&&(bif fo then fl else bif obj then QrK z fl (ms.drop j)else alv z fl (ms.drop j)))with
   | true=>
    rw [hb]at h;cases h
    simp only [Qz]at hb
    exact⟨ri.length,fl,nf,j,by simp,hb.1.2,QaM hb.1.1,hb.2⟩
   | false=>rw [hb]at h;exact up (ih rfl h)
theorem Qs3 {o:Oper}{f:Nat→Option V}{σ:St}{b:Bool}(hw:QfM ops o f=some b)(hx:∀t u,f t=some u→look σ.fr t=some u):QfM ops o (look σ.fr)=some b:=by
 unfold QfM at hw ⊢
 cases hg:o.guard with
 | none=>simp only [hg]at hw ⊢;exact hw
 | some p=>
  obtain⟨j,t⟩:=p
  simp only [hg]at hw ⊢
  cases hj:ops[j]? with
  | none=>simp only [hj]at hw;cases hw
  | some oj=>
   simp only [hj]at hw ⊢
   cases hd:oj.dst with
   | none=>simp only [hd]at hw;cases hw
   | some d=>
    simp only [hd]at hw ⊢
    cases hf:f d with
    | none=>simp only [hf]at hw;cases hw
    | some v=>
     have:=hx d v hf
     simp only [hf]at hw
     simp only [this]
     exact hw
theorem QbS.want {o:Oper}{σ σ':St}(h:QfM ops o (look σ.fr)=some true)(hs:Stp P C o σ σ'):QbS P C ops o σ σ':=by
 rcases Qoz h with⟨hg,_⟩|⟨j,t,d',hg,hj,⟨u,hu,hb⟩|⟨_,hb⟩⟩
 ·exact QbS.run hg hs
 ·exact QbS.runG hg hj hu (by simpa using hb.symm) hs
 cases hb
theorem QbS.unwant {o:Oper}{σ:St}{d:Nat}(h:QfM ops o (look σ.fr)=some false)(hd:o.dst=some d)(hn:Nat.ble (d+1) C.n=true):QbS P C ops o σ (σ.put d (.lit undef)):=by
 rcases Qoz h with⟨_,hb⟩|⟨j,t,d',hg,hj,⟨u,hu,hb⟩|⟨hu,_⟩⟩
 ·cases hb
 ·have:u=!t:=by cases u<;>cases t<;>first | rfl | cases hb
  exact QbS.pass hg hj hu this hd hn
 exact QbS.passU hg hj hu hd hn
theorem Qx3 (ok:QdO P T)(hN:Qfi P C n){D:Dr}:∀(ds:List Dw) {l:List Oper} {i:Nat} {ri:List (It×Nat)} {ms:List Mut} {B:St} {φ:Prop},QhA P C T n ops S ds l i ri ms B φ=some D→i=ri.length→l=ops.toList.drop i→ms=Q7 (QaO ri)→B=bof base ms→
  (∀k it j,ri.reverse[k]? = some (it,j)→j=j0 (QaO ri) k)→D.φ→
  φ∧D.ri.length=i+ds.length∧(∃r,QaO D.ri=QaO ri++r)∧D.ms=Q7 (QaO D.ri)∧D.B=bof base D.ms∧(∀k it j,D.ri.reverse[k]? = some (it,j)→j=j0 (QaO D.ri) k)∧
   ∀k o it,i≤k→ops[k]? = some o→(QaO D.ri)[k]? = some it→Qr8 P C ops base S (QaO D.ri) k o it:=by
 have hn:=hN.n
 intro ds
 induction ds with
 | nil=>
  intro l i ri ms B φ h hi hl hms hB hj hφ
  cases h
  refine⟨hφ,by simp [hi],⟨[],by simp⟩,hms,hB,hj,fun k o it hk ho hit=>?_⟩
  have:=(QQ.1 hit).1
  simp [QaO]at this;omega
 | cons d ds ih=>
  intro l i ri ms B φ h hi hl hms hB hj hφ
  cases l with
  | nil=>cases d<;>cases h
  | cons o l=>
   have ho:ops[i]? = some o:=by
    have:=congrArg (fun x=>x[0]?) hl
    simpa using this.symm
   have hl':l=ops.toList.drop (i+1):=by
    have:=congrArg List.tail hl
    simpa using this
   have hlen:(QaO ri).length=i:=by simp [QaO,hi]
   have grow:∀(it:It) (φ0:Prop) (ms':List Mut) (B':St),ms'=Q7 (QaO ri++[it])→B'=bof base ms'→QhA P C T n ops S ds l (i+1) ((it,ms.length)::ri) ms' B' φ0=some D→
     (φ0→φ∧∀its:List It,(∃r,its=QaO ri++(it::r))→Qr8 P C ops base S its i o it)→
     φ∧D.ri.length=i+(ds.length+1)∧(∃r,QaO D.ri=QaO ri++r)∧D.ms=Q7 (QaO D.ri)∧D.B=bof base D.ms∧(∀k it j,D.ri.reverse[k]? = some (it,j)→j=j0 (QaO D.ri) k)∧
      ∀k o it,i≤k→ops[k]? = some o→(QaO D.ri)[k]? = some it→Qr8 P C ops base S (QaO D.ri) k o it:=by
    intro it φ0 ms' B' hms' hB' h hstep
    have hio:QaO ((it,ms.length)::ri)=QaO ri++[it]:=by simp [QaO]
    obtain⟨h1,h2,⟨r,h3⟩,h4,h5,h6,h7⟩:=ih h (by simp [hi]) hl' (by rw [hio];exact hms') hB' (fun k it' j hk=>by
     rw [hio]
     rw [List.reverse_cons]at hk
     by_cases hlt:k<ri.length
     ·rw [QbR (by simpa using hlt)]at hk
      rw [hj k it' j hk];unfold j0
      rw [QsK (by omega)]
     rw [Qcm (by simp;omega)]at hk
     have:k-ri.reverse.length=0:=by
      have:=(QQ.1 hk).1;simpa using this
     rw [this]at hk;simp at hk
     obtain⟨rfl,rfl⟩:=hk
     have hk2:k=ri.length:=by simp at this;omega
     unfold j0
     rw [QsK (by omega),hms,QeV (by omega)]) hφ
    obtain⟨h8,h9⟩:=hstep h1
    rw [hio,QhT]at h3
    refine⟨h8,by omega,⟨_,h3⟩,h4,h5,h6,fun k o' it' hk ho' hit=>?_⟩
    rcases QdB i k with hlt | hge
    ·exact h7 k o' it' hlt ho' hit
    have:k=i:=by omega
    subst this
    rw [ho]at ho';cases ho'
    have:(QaO D.ri)[k]? = some it:=by rw [h3,Qcm (by omega),hlen];simp
    rw [this]at hit;cases hit
    exact h9 _ ⟨r,h3⟩
   have place:∀{its:List It} {it:It} {r:List It},its=QaO ri++(it::r)→(Q7 its).take (j0 its i)=ms∧∀k it' j,ri.reverse[k]? = some (it',j)→its[k]? = some it'∧j=j0 its k:=by
    intro its it r hits
    have h1:its.take i=QaO ri:=by rw [hits,QsK (by omega),QeV (by omega)]
    refine⟨?_,fun k it' j hk=>⟨?_,?_⟩⟩
    ·unfold j0;rw [h1,hits,Qg8,←hms];simp
    ·have hk2:(QaO ri)[k]? = some it':=by simp only [QaO,←List.map_reverse,Qan,hk,QdY]
     rw [hits,QbR (QQ.1 hk2).1];exact hk2
    have hkl:=(QQ.1 hk).1
    rw [hj k it' j hk];unfold j0
    rw [hits,QsK (by simp at hkl;omega)]
   have envB:∀{its:List It} {it:It} {r:List It} {σ:St},its=QaO ri++(it::r)→Sub σ B→(∀k y fl nf,its[k]? = some (.add y fl nf)→QlM o k=true→Qnh σ y fl (ms.drop (j0 its k)))→
     (∀x u,QpZ B false ms ri i o x=some u→σ.opd x=some u)∧∀b u,Qs2 B false ms ri i o b=some u→look σ.hp b=some u:=by
    intro its it r σ hits hsub hdep
    have dep:∀{t:Nat} {x:DF},Qop false o t false ms ri i=some x→look σ.fr x.d=some x.v∧x.d=t:=fun hf=>by
     obtain⟨k,fl,nf,j,g1,g2,g3,g4⟩:=Quq hi hf
     obtain⟨g5,g6⟩:=(place hits).2 k _ j g1
     exact⟨(hdep k _ fl nf g5 g2).1 (by rw [←g6];exact g4),g3⟩
    have depO:∀{t:Nat} {x:DF},Qop true o t false ms ri i=some x→(∀ob,x.ob=some ob→look σ.hp x.d=some ob)∧x.d=t:=fun hf=>by
     obtain⟨k,fl,nf,j,g1,g2,g3,g4⟩:=Quq hi hf
     obtain⟨g5,g6⟩:=(place hits).2 k _ j g1
     exact⟨(hdep k _ fl nf g5 g2).2 (by rw [←g6];exact g4),g3⟩
    refine⟨fun x u hx=>?_,fun b u hx=>?_⟩
    ·cases x with
     | tmp t=>
      simp only [QpZ]at hx
      split at hx
      ·rename_i v hv;cases hx;exact hsub.1 _ _ hv
      split at hx
      ·rename_i y hy;cases hx;obtain⟨g1,g2⟩:=dep hy;subst g2;exact g1
      cases hx
     | const v=>exact hx
     | global g=>exact hx
     | func f=>exact hx
    simp only [Qs2]at hx
    split at hx
    ·rename_i v hv;cases hx;exact hsub.2 _ _ hv
    split at hx
    ·rename_i y hy;obtain⟨g1,g2⟩:=depO hy;subst g2;exact g1 _ hx
    cases hx
   have envS:∀{its:List It} {it:It} {r:List It} {σ:St},its=QaO ri++(it::r)→Sub σ S→(∀k y nf,its[k]? = some (.add y true nf)→QlM o k=true→Qwc σ y)→
     (∀x u,QpZ S true ms ri i o x=some u→σ.opd x=some u)∧∀b u,Qs2 S true ms ri i o b=some u→look σ.hp b=some u:=by
    intro its it r σ hits hsub hdep
    have dep:∀{b:Bool} {t:Nat} {x:DF},Qop b o t true ms ri i=some x→Qwc σ x∧x.d=t:=fun hf=>by
     obtain⟨k,fl,nf,j,g1,g2,g3,g4⟩:=Quq hi hf
     obtain⟨g5,g6⟩:=(place hits).2 k _ j g1
     have:fl=true:=g4
     subst this
     exact⟨hdep k _ nf g5 g2,g3⟩
    refine⟨fun x u hx=>?_,fun b u hx=>?_⟩
    ·cases x with
     | tmp t=>
      simp only [QpZ]at hx
      split at hx
      ·rename_i v hv;cases hx;exact hsub.1 _ _ hv
      split at hx
      ·rename_i y hy;cases hx;obtain⟨g1,g2⟩:=dep hy;subst g2;exact g1.1
      cases hx
     | const v=>exact hx
     | global g=>exact hx
     | func f=>exact hx
    simp only [Qs2]at hx
    split at hx
    ·rename_i v hv;cases hx;exact hsub.2 _ _ hv
    split at hx
    ·rename_i y hy;obtain⟨g1,g2⟩:=dep hy;subst g2;exact g1.2 _ hx
    cases hx
   have addOK:∀{x:DF} {fl nf:Bool} {φ0:Prop},QhA P C T n ops S ds l (i+1) ((.add x fl nf,ms.length)::ri) ms B φ0=some D→
     (φ0→φ∧∀σ,(∀y u,QpZ (bif fl&&!nf then S else B) (fl&&!nf) ms ri i o y=some u→σ.opd y=some u)→(∀b u,Qs2 (bif fl&&!nf then S else B) (fl&&!nf) ms ri i o b=some u→look σ.hp b=some u)→(x.ob.isSome=true→look σ.hp x.d=none)→QbS P C ops o σ (σ.addF x))→
     φ∧D.ri.length=i+(ds.length+1)∧(∃r,QaO D.ri=QaO ri++r)∧D.ms=Q7 (QaO D.ri)∧D.B=bof base D.ms∧(∀k it j,D.ri.reverse[k]? = some (it,j)→j=j0 (QaO D.ri) k)∧
      ∀k o it,i≤k→ops[k]? = some o→(QaO D.ri)[k]? = some it→Qr8 P C ops base S (QaO D.ri) k o it:=by
    intro x fl nf φ0 h hs
    refine grow (.add x fl nf) φ0 ms B (by rw [Qg8];simp [Q7,hms]) hB h fun h0=>?_
    obtain⟨g1,g2⟩:=hs h0
    refine⟨g1,fun its ⟨r,hits⟩=>?_⟩
    dsimp only [Qr8]
    generalize (fl&&!nf)=ff at g2 ⊢
    cases ff with
    | true=>exact fun σ hsub hdep hf=>let ⟨a,b⟩:=envS hits hsub hdep;g2 σ a b hf
    | false=>
     intro σ hsub hdep hf
     rw [(place hits).1,←hB]at hsub
     rw [(place hits).1]at hdep
     obtain⟨a,b⟩:=envB hits hsub hdep
     exact g2 σ a b hf
   cases d with
   | a h0 sv fl nf=>
    rw [QhA]at h
    split at h
    ·rename_i hw
     split at h
     ·rename_i dd hd
      replace h:=Qag h;obtain⟨e1,h⟩:=h
      rw [←hn]at e1
      have stp:∀{v:V} {ob:Option Ob} {q:Option Prop} {σ:St},ev1 P C T h0 o dd (QpZ (bif fl&&!nf then S else B) (fl&&!nf) ms ri i o) (Qs2 (bif fl&&!nf then S else B) (fl&&!nf) ms ri i o)=some ⟨v,ob,q⟩→Rs.holds ⟨v,ob,q⟩→
        (∀x u,QpZ (bif fl&&!nf then S else B) (fl&&!nf) ms ri i o x=some u→σ.opd x=some u)→(∀b u,Qs2 (bif fl&&!nf then S else B) (fl&&!nf) ms ri i o b=some u→look σ.hp b=some u)→(ob.isSome=true→look σ.hp dd=none)→QbS P C ops o σ (σ.addF ⟨dd,v,ob⟩):=
       fun he hq hx hh hf=>QbS.want (Qs3 hw fun t u ht=>hx (.tmp t) u ht) (Quj ok hd e1 hN.g hx hh he hq hf)
      split at h
      ·rename_i v ob q he
       split at h
       ·exact addOK h fun h1=>let ⟨a,b⟩:=QpW h1;⟨a,fun σ hx hh hf=>stp he b hx hh hf⟩
       refine addOK h fun h1=>?_
       obtain⟨h1,h2⟩:=h1
       subst h2
       obtain⟨a,b⟩:=QpW h1
       exact⟨a,fun σ hx hh hf=>(stp he b hx hh hf).denil⟩
      cases h
     cases h
    ·rename_i hw
     split at h
     ·rename_i dd hd
      replace h:=Qag h;obtain⟨e1,h⟩:=h
      rw [←hn]at e1
      exact addOK h fun h1=>⟨h1,fun σ hx hh hf=>QbS.unwant (Qs3 hw fun t u ht=>hx (.tmp t) u ht) hd e1⟩
     cases h
    cases h
   | m md=>
    rw [QhA]at h
    split at h
    ·rename_i hw
     split at h
     ·rename_i M q he
      refine grow (.tn M) (QpV φ q) (ms++[M]) (M.run B) (by rw [Qg8];simp [Q7,hms]) (by rw [Qw5,←hB];rfl) h fun h1=>?_
      obtain⟨a,b⟩:=QpW (v:=.J) (ob:=none) h1
      refine⟨a,fun its ⟨r,hits⟩ σ hsub hdep=>?_⟩
      rw [(place hits).1,←hB]at hsub
      rw [(place hits).1]at hdep
      obtain⟨hx,hh⟩:=envB hits hsub hdep
      refine QbS.want (Qs3 hw fun t u ht=>hx (.tmp t) u ht) (Qyz ok hN he ?_ hx hh)
      cases q with
      | none=>trivial
      | some p=>exact b
     cases h
    cases h
def Qni (ms:List Mut):List (It×Nat)→List (Nat×V)
 | []=>[]
 | (.add x fl _,j)::r=>bif alv x fl (ms.drop j)then(x.d,x.v)::Qni ms r else Qni ms r
 | (.tn _,_)::r=>Qni ms r
def Ql0 (ms:List Mut):List (It×Nat)→List (Nat×Ob)
 | []=>[]
 | (.add x fl _,j)::r=>bif QrK x fl (ms.drop j)then(match x.ob with | some ob=>(x.d,ob)::Ql0 ms r | none=>Ql0 ms r)else Ql0 ms r
 | (.tn _,_)::r=>Ql0 ms r
def okV (ops:Array Oper)(base S:St)(D:Dr):Bool:=QxX ops&&QC6 ops (QaO D.ri)&&QzI base (QaO D.ri)&&Qr7 D.ms (QaO D.ri)&&Qx2 ops (QaO D.ri) D.ms S&&QBm ops (QaO D.ri)
theorem Qs4 {α:Type}{l:List (Nat×α)}:∀{ts:List Nat} {r:List (Nat×α)},QiG l ts=some r→∀p∈r,look l p.1=some p.2:=by
 intro ts
 induction ts with
 | nil=>intro r h p hp;cases h;cases hp
 | cons t ts ih=>
  intro r h p hp
  rw [QiG]at h
  split at h
  ·rename_i v hv
   split at h
   ·rename_i r' hr
    cases h
    rcases Qaa.1 hp with rfl | hp
    ·exact hv
    exact ih hr p hp
   cases h
  cases h
theorem QDb {fr:List (Nat×V)}:∀{l:List (Nat×V)},(∀p∈l,look fr p.1=some p.2)→QjI fr l:=by
 intro l
 induction l with
 | nil=>intro _;trivial
 | cons p l ih=>intro h;exact⟨h p Q5,ih fun q hq=>h q (Qab _ hq)⟩
theorem QDc {fr:List (Nat×Ob)}:∀{l:List (Nat×Ob)},(∀p∈l,look fr p.1=some p.2)→QhV fr l:=by
 intro l
 induction l with
 | nil=>intro _;trivial
 | cons p l ih=>intro h;exact⟨h p Q5,ih fun q hq=>h q (Qab _ hq)⟩
theorem AK.draw2 {id:Nat}(ok:QdO P T)(hN:Qfi P C n)(hmix:P.follows .mixedOrders=true)(ds:List Dw)(sts sos ts os:List Nat){sf:List (Nat×V)}{sh:List (Nat×Ob)}{fr:List (Nat×V)}{hp:List (Nat×Ob)}{ri:List (It×Nat)}{ms:List Mut}{B:St}{φ:Prop}
  (hS1:QiG base.fr sts=some sf) (hS2:QiG base.hp sos=some sh)
  (e:QhA P C T n ops ⟨sf,sh⟩ ds ops.toList 0 [] [] base True=some ⟨ri,ms,B,φ⟩) (hφ:φ) (hl:ds.length=ops.size) (hk:okV ops base ⟨sf,sh⟩ ⟨ri,ms,B,φ⟩=true)
  (hf1:QiG (Qni ms ri++B.fr) ts=some fr) (hf2:QiG (Ql0 ms ri++B.hp) os=some hp) (hc:St.closed ⟨fr,hp⟩=true) (k:AK P C Q (.x .normal) ks ⟨fr,hp⟩):AK P C Q (.c (.region id ops true)) ks base:=by
 have hn:=hN.n
 obtain⟨D,hD⟩:∃D:Dr,D=⟨ri,ms,B,φ⟩:=⟨_,rfl⟩
 rw [←hD]at e hk
 have hφ:D.φ:=by rw [hD];exact hφ
 have hf1:QiG (Qni D.ms D.ri++D.B.fr) ts=some fr:=by rw [hD];exact hf1
 have hf2:QiG (Ql0 D.ms D.ri++D.B.hp) os=some hp:=by rw [hD];exact hf2
 clear hD
 simp only [okV,Qz]at hk
 obtain⟨⟨⟨⟨⟨k1,k2⟩,k3⟩,k4⟩,k5⟩,k6⟩:=hk
 obtain⟨_,h2,_,h4,h5,h6,h7⟩:=Qx3 (base:=base) ok hN ds e rfl rfl rfl rfl (fun k it j h=>by simp at h) hφ
 have hlen:(QaO D.ri).length=ops.size:=by simp [QaO];omega
 rw [h4]at k4 k5
 have hS:Sub base ⟨sf,sh⟩:=⟨fun t v h=>by
  have:=Qs4 hS1 (t,v) (Qbo h);exact this,fun p ob h=>by have:=Qs4 hS2 (p,ob) (Qbo h);exact this⟩
 refine AK.drawV hmix hlen k1 k2 k3 k6 k4 k5 hS (fun i o it ho hit=>h7 i o it (Nat.zero_le _) ho hit) fun σ hsub hadd=>?_
 rw [←h4,←h5]at hsub
 have hadd':∀x fl nf j,(It.add x fl nf,j)∈D.ri→Qnh σ x fl (D.ms.drop j):=by
  intro x fl nf j hm
  obtain⟨i,hi⟩:=Qpm (List.mem_reverse.2 hm)
  have hj:=h6 i _ j hi
  rw [hj,h4]
  refine hadd i x fl nf ?_
  simp only [QaO,←List.map_reverse,Qan,hi,QdY]
 have frOK:∀{ri:List (It×Nat)},(∀q∈ri,q∈D.ri)→∀{t:Nat} {v:V},look (Qni D.ms ri) t=some v→look σ.fr t=some v:=by
  intro ri
  induction ri with
  | nil=>intro _ t v h;cases h
  | cons y ri ih=>
   intro hm t v h
   have hm':=fun q hq=>hm q (Qab _ hq)
   obtain⟨it,j⟩:=y
   cases it with
   | tn M=>exact ih hm' h
   | add x fl nf=>
    rw [Qni]at h
    cases hal:alv x fl (D.ms.drop j)with
    | false=>rw [hal]at h;exact ih hm' h
    | true=>
     rw [hal]at h
     have h:look ((x.d,x.v)::Qni D.ms ri) t=some v:=h
     by_cases e:x.d=t
     ·subst e;rw [Qu]at h;cases h;exact(hadd' x fl nf j (hm _ Q5)).1 hal
     rw [Qr _ _ e]at h;exact ih hm' h
 have hpOK:∀{ri:List (It×Nat)},(∀q∈ri,q∈D.ri)→∀{t:Nat} {v:Ob},look (Ql0 D.ms ri) t=some v→look σ.hp t=some v:=by
  intro ri
  induction ri with
  | nil=>intro _ t v h;cases h
  | cons y ri ih=>
   intro hm t v h
   have hm':=fun q hq=>hm q (Qab _ hq)
   obtain⟨it,j⟩:=y
   cases it with
   | tn M=>exact ih hm' h
   | add x fl nf=>
    rw [Ql0]at h
    cases hal:QrK x fl (D.ms.drop j)with
    | false=>rw [hal]at h;exact ih hm' h
    | true=>
     rw [hal]at h
     cases hob:x.ob with
     | none=>rw [hob]at h;exact ih hm' h
     | some ob=>
      rw [hob]at h
      have h:look ((x.d,ob)::Ql0 D.ms ri) t=some v:=h
      by_cases e:x.d=t
      ·subst e;rw [Qu]at h;cases h;exact(hadd' x fl nf j (hm _ Q5)).2 hal _ hob
      rw [Qr _ _ e]at h;exact ih hm' h
 refine AK.weaken (fun a w hR=>hR.to (QDb fun p hp'=>?_) (QDc fun p hp'=>?_) hc) k
 ·have:=Qs4 hf1 p hp'
  rw [Qf0]at this
  cases hl:look (Qni D.ms D.ri) p.1 with
  | some v=>rw [hl]at this;cases this;exact frOK (fun _ h=>h) hl
  | none=>rw [hl]at this;exact hsub.1 _ _ this
 have:=Qs4 hf2 p hp'
 rw [Qf0]at this
 cases hl:look (Ql0 D.ms D.ri) p.1 with
 | some v=>rw [hl]at this;cases this;exact hpOK (fun _ h=>h) hl
 | none=>rw [hl]at this;exact hsub.2 _ _ this
end
theorem Stp.callSame {P:Program}{C:Ctx}{T:Tab}{n:Nat}{o:Oper}{md:MD}{f:Operand→Option V}{hp:Nat→Option Ob}{σ:St}{d:Nat}{v:V}{q:Prop}(ok:QdO P T)(hN:Qfi P C n)(h1:∀x u,f x=some u→σ.opd x=some u)(h2:∀b u,hp b=some u→look σ.hp b=some u)
  (e:mu1 P C T n md o f hp=some (⟨[],[],some (d,v)⟩,some q)) (hq:q):Stp P C o σ (σ.addF ⟨d,v,none⟩):=Qyz (q:=some q) ok hN e hq h1 h2
theorem Qw7 {α:Type}{f:α→List V}{l:List α}{k h:Nat}:((l.map f).drop k).take (h-k)=((l.drop k).take (h-k)).map f:=by simp
end Go.Vm
