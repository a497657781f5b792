/- A part of the proof; what it holds is told at each theorem. -/
import Derived.Test.YtphohlpbjofddaaGreatDoorO4V1
set_option linter.all false
namespace Go.Vm
open Go Go.RowKit
section
variable {P:Program}{C:Xq}{σ:St}{o:Oper}
def YZ.fn {f:FuncId}{h:Array Operand}{ts:Array TypeId}{vs:L_ V}(ho:o.op=.call { callee:=.value (.func f),args:=h,argTypes:=ts })(he:Zi P f=true)(ha:σ.opsV h.toList=some vs):
  YZ P C o σ f vs:=by
 intro φ a w hr
 obtain⟨h1,h2⟩:=hr.opsV _ _ ha
 refine⟨h.toList.map a.eval,?_,by simpa using h1,λj x v D hv=>?_⟩
 ·have e2:h.map a.eval=(h.toList.map a.eval).toArray:=by apply Array.ext';simp
  simp only[execOp,ho,resolve,Xc,show a.eval (.func f)=.func (.func f) #[] #[]from rfl,Deferred.ofValue,Xp,Xm,invoke,Array.empty_append,Array.append_empty,e2]
  exact BB (P:=P) (w:=w) (f:=f) (args:=(h.toList.map a.eval).toArray) he
 simp only[Ya,XT]at D
 obtain⟨y,hy,rfl⟩:=D
 exact h2 j y v hy hv
def YZ.clo {f:FuncId}{x:Operand}{h:Array Operand}{ts:Array TypeId}{vs fs cs:L_ V}(ho:o.op=.call { callee:=.value x,args:=h,argTypes:=ts })(hx:σ.opd x=some (.clo (.func f) fs cs))
  (he:Zi P f=true) (ha:σ.opsV h.toList=some vs):YZ P C o σ f (fs++(vs++cs)):=by
 intro φ a w hr
 obtain⟨h1,h2⟩:=hr.opsV _ _ ha
 obtain⟨xs,ys,hev,e1,e2,e3,e4⟩:=(hr.opd hx).clo_inv
 have h1':h.size=vs.length:=by simpa using h1
 refine⟨xs.toList++(h.toList.map a.eval++ys.toList),?_,by simp;omega,λj y v D hv=>?_⟩
 ·have e5:(xs++h.map a.eval)++ys=(xs.toList++(h.toList.map a.eval++ys.toList)).toArray:=by apply Array.ext';simp
  simp only[execOp,ho,resolve,Xc,hev,Deferred.ofValue,Xp,Xm,invoke,e5]
  exact BB (P:=P) (w:=w) (f:=f) (args:=_) he
 by_cases c1:j<fs.length
 ·rw[YY (by simpa using (by omega:j<xs.size))]at D
  rw[YY c1]at hv
  exact e3 j y v (by simpa using D) hv
 rw[Ko (by simp;omega)]at D
 rw[Ko (by omega)]at hv
 simp only[Array.length_toList]at D
 rw[e1]at D
 by_cases c2:j-fs.length<vs.length
 ·rw[YY (by simp;simp at h1;omega)]at D
  rw[YY c2]at hv
  simp only[Ya,XT]at D
  obtain⟨z,hz,rfl⟩:=D
  exact h2 _ z v hz hv
 have hl:(h.toList.map a.eval).length=vs.length:=by simpa using h1
 rw[Ko (by omega),hl]at D
 rw[Ko (by omega)]at hv
 exact e4 _ y v (by simpa using D) hv
def Nz (P:Program)(t:TypeId)(name:String):O_ (FuncId×Bool):=match P.info? t with
 | some i=>match i.methods.find? (·.name==name)with
  | some m=>bif m.path.isEmpty then m.func else none
  | none=>none
 | none=>none
def QjP (P:Program)(t:TypeId):Bool:=match P.underlying t with
 | some (.pointer _)=>true
 | _=>false
def Qb7 (P:Program)(t:TypeId):Bool:=match P.underlying t with
 | some (.pointer _)=>false
 | some _=>true
 | none=>false
def Qay {t:TypeId}{name:String}{f:FuncId}{p:Bool}{n:Nat}{v r:Value}{w:World}(h:Nz P t name=some (f,p))
  (hr:(receiverAt t (.val v) p (some ((name.splitOn ".").getLastD name))).run P w=.ok r w):(method (n+1) t v name).run P w=.ok (f,r) w:=by
 unfold Nz at h
 split at h
 ·rename_i i hi
  split at h
  ·rename_i m hm
   cases hp:m.path.isEmpty with
   | false=>rw[hp]at h;cases h
   | true=>
    rw[hp]at h
    simp only[Qx]at h
    have hpl:m.path.toList=[]:=by simpa using hp
    simp only[method,typeInfo,Xc,Xp,run_program,Xm,hi,hm,hpl,follow,h,hp,if_true,hr]
  cases h
 cases h
def QhK {t:TypeId}{v:Value}{D:O_ String}{w:World}(h:QjP P t=true):(receiverAt t (.val v) true D).run P w=.ok v w:=by
 unfold QjP at h
 split at h
 ·rename_i e j
  simp[receiverAt,run_underlying j,Place.get]
 cases h
def QhL {t:TypeId}{v:Value}{wr:O_ String}{w:World}(h:Qb7 P t=true):(receiverAt t (.val v) false wr).run P w=.ok v w:=by
 unfold Qb7 at h
 split at h
 ·cases h
 ·rename_i d j D
  cases d<;>first | exact(j _ rfl).elim | simp[receiverAt,run_underlying D,Place.get]
 cases h
def Qgj (P:Program)(t e:TypeId):Bool:=match P.underlying t with
 | some (.pointer e')=>Nat.beq e' e
 | _=>false
def Qgk {t e:TypeId}{p:Addr}{m:String}{w:World}{y:Value}(h:Qgj P t e=true)(hl:(loadVar e p).run P w=.ok y w):(receiverAt t (.val (.pointer (some p))) false (some m)).run P w=.ok y w:=by
 unfold Qgj at h
 split at h
 ·rename_i e' he
  have:=Yu h
  subst this
  have hs:(Builtin.ssaWrapNilChk_ #[t] t #[.pointer (some p),strVal "",strVal m]).run P w=.ok (.pointer (some p)) w:=rfl
  simp[receiverAt,run_underlying he,Place.get,hs,asAddr,hl]
 cases h
def YZ.meth {f:FuncId}{x:Operand}{name:String}{D:Array Operand}{ts:Array TypeId}{t:TypeId}{vs:L_ V}{u r:V}(ho:o.op=.call { callee:=.invoke x name,args:=D,argTypes:=ts })
  (hx:σ.opd x=some (.ifc t u)) (hm:(Nz P t name=some (f,true)/\QjP P t=true)\/(Nz P t name=some (f,false)/\Qb7 P t=true)) (he:Zi P f=true) (ha:σ.opsV D.toList=some vs):
  YZ P C o σ f (u::vs):=by
 intro φ a w hr
 obtain⟨h1,h2⟩:=hr.opsV _ _ ha
 obtain⟨y,hev,hy⟩:=(hr.opd hx).ifc_inv
 refine⟨y::D.toList.map a.eval,?_,by simpa using h1,λj z v hz hv=>?_⟩
 ·have hmeth:(method (P.types.size+Made.depth) t y name).run P w=.ok (f,y) w:=by
   have hd:P.types.size+Made.depth=(P.types.size+(Made.depth-1))+1:=by have:Made.depth=(Made.depth-1)+1:=rfl;omega
   rw[hd]
   rcases hm with⟨h,hp⟩|⟨h,hp⟩
   ·exact Qay h (QhK hp)
   exact Qay h (QhL hp)
  have e2:#[y]++D.map a.eval=(y::D.toList.map a.eval).toArray:=by apply Array.ext';simp
  have e3:(#[Value.iface t y]++D.map a.eval)[0]? = some (.iface t y):=by rw[Array.getElem?_append_left (by simp)];rfl
  have e4:(#[Value.iface t y]++D.map a.eval).extract 1 (#[Value.iface t y]++D.map a.eval).size=D.map a.eval:=by
   apply Array.ext';simp[KE]
  simp only[execOp,ho,resolve,Xc,hev,Xp,Xm,invoke,e3,e4,callMethod,run_program,hmeth,e2]
  exact BB (P:=P) (w:=w) (f:=f) (args:=_) he
 cases j with
 | zero=>simp at hz hv;subst hz;subst hv;exact hy
 | succ j=>
  simp only[Qam,Ya,XT]at hz hv
  obtain⟨y',hy',rfl⟩:=hz
  exact h2 j y' v hy' hv
def YZ.methV {f:FuncId}{x:Operand}{name:String}{h:Array Operand}{ts:Array TypeId}{t e:TypeId}{vs cs:L_ V}{b off:Nat}{r:V}(ho:o.op=.call { callee:=.invoke x name,args:=h,argTypes:=ts })
  (hx:σ.opd x=some (.ifc t (.loc b 0 off))) (hm:Nz P t name=some (f,false)) (hp:Qgj P t e=true) (hg:AS P e=some false) (hb:look σ.hp b=some (.var cs)) (hr0:cs[off]? = some r) (he:Zi P f=true)
  (ha:σ.opsV h.toList=some vs):YZ P C o σ f (r::vs):=by
 intro φ a w hr
 obtain⟨h1,h2⟩:=hr.opsV _ _ ha
 obtain⟨y,hev,hy⟩:=(hr.opd hx).ifc_inv
 obtain⟨B,hB,rfl⟩:=hy.loc_inv
 obtain⟨xs,E,e1,e2,e0,e3⟩:=hr.block hB hb
 have hlt:off<xs.size:=by rw[e2];exact(Xe.1 hr0).1
 have D:(loadVar e ⟨B.b,B.off+(0*B.z+off),none⟩).run P w=.ok xs[off] w:=by
  have:=LI (P:=P) (T:=e) (w:=w) (p:=⟨B.b,B.off+(0*B.z+off),none⟩) (x:=xs[off]) hg (by simp[World.cell?,e1,hlt,e0])
  simpa only[Instr.loadAt,Instr.sureAddr,Xc,Xp,Xm] using this
 refine⟨xs[off]::h.toList.map a.eval,?_,by simpa using h1,λj z v hz hv=>?_⟩
 ·have hmeth:(method (P.types.size+Made.depth) t (.pointer (some ⟨B.b,B.off+(0*B.z+off),none⟩)) name).run P w=.ok (f,xs[off]) w:=by
   have hd:P.types.size+Made.depth=(P.types.size+(Made.depth-1))+1:=by have:Made.depth=(Made.depth-1)+1:=rfl;omega
   rw[hd]
   exact Qay hm (Qgk hp D)
  have e2:#[xs[off]]++h.map a.eval=(xs[off]::h.toList.map a.eval).toArray:=by apply Array.ext';simp
  have e3:(#[Value.iface t (.pointer (some ⟨B.b,B.off+(0*B.z+off),none⟩))]++h.map a.eval)[0]? = some (.iface t (.pointer (some ⟨B.b,B.off+(0*B.z+off),none⟩))):=by rw[Array.getElem?_append_left (by simp)];rfl
  have e4:(#[Value.iface t (.pointer (some ⟨B.b,B.off+(0*B.z+off),none⟩))]++h.map a.eval).extract 1 (#[Value.iface t (.pointer (some ⟨B.b,B.off+(0*B.z+off),none⟩))]++h.map a.eval).size=h.map a.eval:=by
   apply Array.ext';simp[KE]
  simp only[execOp,ho,resolve,Xc,hev,Xp,Xm,invoke,e3,e4,callMethod,run_program,hmeth,e2]
  exact BB (P:=P) (w:=w) (f:=f) (args:=_) he
 cases j with
 | zero=>simp at hz hv;subst hz;subst hv;exact e3 off _ _ (Uj hlt) hr0
 | succ j=>
  simp only[Qam,Ya,XT]at hz hv
  obtain⟨y',hy',rfl⟩:=hz
  exact h2 j y' v hy' hv
def Gives (r:V)(outs:L_ (Nat×Ob))(v:V)(h:L_ (Nat×Ob)):Prop:=v=r/\∀c ob,look outs c=some ob->look h c=some ob
def Ql.callM {f:FuncId}{d:Nat}{g:Bool}{M N:L_ (Nat×Nat)}{dead:L_ Nat}{hsC outs hsN:L_ (Nat×Ob)}{vs us:L_ V}{r r':V}(hE:YZ P C o σ f vs)(hd:o.dst=some d)(hn:Nat.ble (d+1) C.n=true)(hpg:C.pg P)
  (hnm:Du σ M N dead outs=true) (hnd:(M.map Prod.fst).Nodup)
  (hv:Vws σ.hp g false (Et M) (λa b=>look M b=some a) vs us) (j:Ld σ.hp g false (Et M) (λa b=>look M b=some a) σ.hp M hsC)
  (hc:QP P f us hsC (Gives r outs)) (D:Ld [] false g [] (λc b=>look N b=some c) outs N hsN) (hr':Vw [] false g [] (λc b=>look N b=some c) r r'):
  Ql P C o σ ((σ.after dead hsN).put d r'):=by
 intro a w ⟨φ,hr⟩ next Q hnext
 have hN:=Names.of hnm hnd
 refine⟨λ_ _=>trivial,?_⟩
 obtain⟨vals,hex,h1,h2⟩:=hE φ a w hr
 rw[Qdd hex,Oper.uponIn_enter]
 refine⟨(λh=>by cases h),ZG ((hc _ _ w _ (Ins.of_vals hr h1 h2 hN.injM hN.param hv j) ((hr.glob hpg).mono λ_ h=>.inl h)).mono ?_)⟩
 rintro e w' ⟨x,v,hs',φ',rfl,⟨rfl,hso⟩,hout⟩
 obtain⟨h3,h4⟩:=hr.after hN hout hso (λc s h=>by
  obtain⟨ob',e1⟩:=j.get.2 c s h
  obtain⟨s',ob,e2,e3,_⟩:=j.get.1 c ob' e1
  rw[h]at e2;cases e2;exact⟨ob,e3⟩) D
 refine hnext _ _ ⟨Le φ M N dead φ',?_⟩
 rw[hd]
 exact h3.put (XM hn) (h4 hr')
end
section
variable {κ α β:Type}[DecidableEq κ]
def QW : L_ (κ×α)->κ->O_ α
 | [],_=>none
 | (a,x)::r,k=>if a=k then some x else QW r k
def Mz (lt:κ->κ->Bool):L_ (κ×α)->κ->α->L_ (κ×α)
 | [],k,v=>[(k,v)]
 | (a,x)::r,k,v=>if lt k a=true then(k,v)::(a,x)::r else(a,x)::Mz lt r k v
def MA : L_ (κ×α)->κ->α->L_ (κ×α)
 | [],_,_=>[]
 | (a,x)::r,k,v=>if a=k then(k,v)::r else(a,x)::MA r k v
def Ja (lt:κ->κ->Bool)(l:L_ (κ×α))(k:κ)(v:α):L_ (κ×α):=match QW l k with
 | some _=>MA l k v
 | none=>Mz lt l k v
def Qez : ∀{l:L_ (κ×α)} {k:κ} {v:α},QW l k=some v->(k,v)∈l:=by
 intro l
 induction l with
 | nil=>intro k v h;cases h
 | cons p l j=>
  intro k v h
  obtain⟨a,x⟩:=p
  rw[QW]at h
  split at h
  ·rename_i e;subst e;cases h;exact XQ
  exact Yf _ (j h)
def Qen : ∀{l:L_ (κ×α)} {k:κ} {v:α},(l.map Prod.fst).Nodup->(k,v)∈l->QW l k=some v:=by
 intro l
 induction l with
 | nil=>intro k v _ h;cases h
 | cons p l D=>
  intro k v j h
  obtain⟨a,x⟩:=p
  rw[EJ,Me]at j
  rw[QW]
  rcases Yt.1 h with h | h
  ·cases h;simp
  have:a≠k:=λe=>j.1 (by rw[show(a,x).1=k from e];exact YN.2 ⟨(k,v),h,rfl⟩)
  rw[if_neg this];exact D j.2 h
def Qmz : ∀{l:L_ (κ×α)} {k:κ},QW l k=none->∀p∈l,p.1≠k:=by
 intro l
 induction l with
 | nil=>intro k _ p h;cases h
 | cons q l D=>
  intro k h p hp
  obtain⟨a,x⟩:=q
  rw[QW]at h
  split at h
  ·cases h
  rename_i j
  rcases Yt.1 hp with e | hp
  ·subst e;exact j
  exact D h p hp
def Qb8 (lt:κ->κ->Bool):∀(l:L_ (κ×α)) (k:κ) (v:α),(Mz lt l k v).Perm ((k,v)::l):=by
 intro l
 induction l with
 | nil=>intro k v;exact .refl _
 | cons p l h=>
  intro k v
  obtain⟨a,x⟩:=p
  rw[Mz]
  split
  ·exact .refl _
  exact((h k v).cons (a,x)).trans (.swap _ _ _)
def QeA : ∀(l:L_ (κ×α)) (k:κ) (v:α),(MA l k v).map Prod.fst=l.map Prod.fst:=by
 intro l
 induction l with
 | nil=>intro k v;rfl
 | cons p l h=>
  intro k v
  obtain⟨a,x⟩:=p
  rw[MA]
  split
  ·rename_i e;subst e;rfl
  rw[EJ,EJ,h]
def QnH : ∀{l:L_ (κ×α)} {k:κ} {v:α},(l.map Prod.fst).Nodup->(∃x,(k,x)∈l)->∀p,p∈MA l k v↔p=(k,v)\/(p∈l/\p.1≠k):=by
 intro l
 induction l with
 | nil=>intro k v _ ⟨x,h⟩;cases h
 | cons q l ih=>
  intro k v hn ⟨x,hx⟩ p
  obtain⟨a,y⟩:=q
  rw[EJ,Me]at hn
  rw[MA]
  split
  ·rename_i e
   subst e
   have hno:∀p∈l,p.1≠a:=λp hp e=>hn.1 (YN.2 ⟨p,hp,e⟩)
   constructor
   ·intro h
    rcases Yt.1 h with h | h
    ·exact .inl h
    exact .inr ⟨Yf _ h,hno p h⟩
   rintro (h | ⟨h,D⟩)
   ·rw[h];exact XQ
   rcases Yt.1 h with h | h
   ·subst h;exact absurd rfl D
   exact Yf _ h
  rename_i j
  have hx':(k,x)∈l:=by
   rcases Yt.1 hx with h | h
   ·cases h;exact absurd rfl j
   exact h
  have:=ih hn.2 ⟨x,hx'⟩ (v:=v) p
  rw[Yt,this,Yt]
  constructor
  ·rintro (h | h | h)
   ·subst h;exact .inr ⟨.inl rfl,j⟩
   ·exact .inl h
   exact .inr ⟨.inr h.1,h.2⟩
  rintro (h | ⟨h | h,D⟩)
  ·exact .inr (.inl h)
  ·exact .inl h
  exact .inr (.inr ⟨h,D⟩)
def Qlv (lt:κ->κ->Bool){l:L_ (κ×α)}{k:κ}{v:α}(h:(l.map Prod.fst).Nodup):((Ja lt l k v).map Prod.fst).Nodup:=by
 unfold Ja
 split
 ·rw[QeA];exact h
 rename_i D
 refine(((Qb8 lt l k v).map Prod.fst).nodup_iff).2 ?_
 rw[EJ,Me]
 refine⟨λj=>?_,h⟩
 obtain⟨p,hp,e⟩:=YN.1 j
 exact Qmz D p hp e
end
def QT {κ α:Type}(e:κ->V)(f:α->V)(l:L_ (κ×α)):L_ (V×V):=l.map λp=>(e p.1,f p.2)
structure UJ (P:Program) (K:TypeId) {κ:Type} (e:κ->V) (val:κ->Value):Prop where
 d:∃D,P.underlying K=some D/\∀k,MapKept.IsKey D (val k)
 inv:∀I w x k,XA I w x (e k)->x=val k
 dat:∀I w k,XA I w (val k) (e k)
 edat:∀k,(e k).dat=true
 inj:∀a b,val a=val b->a=b
 einj:∀a b,e a=e b->a=b
def Qpc (P:Program)(K:TypeId)(h:IntKind):Bool:=match P.underlying K with
 | some (.int k)=>decide (k=h)
 | _=>false
def UJ.int {P:Program}{K:TypeId}{j:IntKind}(h:Qpc P K j=true):UJ P K (V.i j) (Value.int j):=by
 unfold Qpc at h
 split at h
 ·rename_i k D
  have:=Xn h
  subst this
  refine⟨⟨_,D,λ_=>rfl⟩,λI w x k h=>by cases h;rfl,λI w k=>.i _ _,λ_=>rfl,λa b h=>by cases h;rfl,λa b h=>by cases h;rfl⟩
 cases h
def UJ.str {P:Program}{K:TypeId}(h:Qaq P K=true):UJ P K V.s Value.string:=
 ⟨⟨_,SB h,λ_=>trivial⟩,λI w x k h=>by cases h;rfl,λI w k=>.s _,λ_=>rfl,λa b h=>by cases h;rfl,λa b h=>by cases h;rfl⟩
section
variable {P:Program}{K:TypeId}{κ α:Type}[DecidableEq κ]{e:κ->V}{val:κ->Value}{f:α->V}{I:Nat->Prop}{w:World}{B:QU}{l:L_ (κ×α)}
def RY (D:∀a b,e a=e b->a=b):((QT e f l).map Prod.fst).Nodup↔(l.map Prod.fst).Nodup:=by
 have:(QT e f l).map Prod.fst=(l.map Prod.fst).map e:=by simp[QT]
 rw[this]
 constructor
 ·intro h;exact(RU.1 h).imp λj e'=>j (by rw[e'])
 intro h;exact RU.2 (h.imp λj e'=>j (D _ _ e'))
def DZ.find (hk:UJ P K e val){D:TypeDesc}(hD:P.underlying K=some D)(h:DZ I w B (QT e f l))(k:κ):∃es clock,w.heap[B.b]? = some (.map es clock)/\MapKept.Stamped es clock/\(l.map Prod.fst).Nodup/\
  es.size=l.length/\MapKept.IsKey D (val k)/\
  ((QW l k=none/\Instr.findNow D (val k) es.toList 0=some none/\∀x∈es.toList,x.key≠val k)\/
   ∃j x v,QW l k=some v/\Instr.findNow D (val k) es.toList 0=some (some (j,x.val))/\es[j]? = some x/\x.key=val k/\XA I w x.val (f v)):=by
 obtain⟨es,clock,h1,h2,h3,h4,h5,h6⟩:=h
 obtain⟨D',hD',hK⟩:=hk.d
 rw[hD]at hD';cases hD'
 have hn:=(RY hk.einj).1 h3
 have hrow:∀x∈es.toList,∃a y,(a,y)∈l/\x.key=val a/\XA I w x.val (f y):=λx hx=>by
  obtain⟨p,hp,a1,a2⟩:=h5 x hx
  obtain⟨q,hq,rfl⟩:=YN.1 hp
  exact⟨q.1,q.2,hq,hk.inv _ _ _ _ a1,a2⟩
 have hks:∀x∈es.toList,MapKept.IsKey D x.key:=λx hx=>by obtain⟨a,y,_,e1,_⟩:=hrow x hx;rw[e1];exact hK a
 refine⟨es,clock,h1,h2,hn,by rw[h4,QT,Ii],hK k,?_⟩
 rcases MapKept.findNow_spec (hK k) es.toList 0 hks with⟨g1,g2⟩|⟨j,x,g1,g2,g3⟩
 ·refine .inl ⟨?_,g1,g2⟩
  cases hg:QW l k with
  | none=>rfl
  | some v=>
   obtain⟨x,hx,a1,_⟩:=h6 (e k,f v) (YN.2 ⟨(k,v),Qez hg,rfl⟩)
   exact absurd (hk.inv _ _ _ _ a1) (g2 x hx)
 obtain⟨a,y,hm,e1,e2⟩:=hrow x (XF g2)
 have:a=k:=hk.inj _ _ (by rw[<-e1,g3])
 subst this
 exact .inr ⟨j,x,y,Qen hn hm,by simpa using g1,by simpa using g2,g3,e2⟩
end
def PW (P:Program)(T:TypeId):O_ (TypeId×TypeId):=match P.underlying T with
 | some (.map k e)=>some (k,e)
 | _=>none
def HB {P:Program}{T k e:TypeId}(h:PW P T=some (k,e)):P.underlying T=some (.map k e):=by
 unfold PW at h
 split at h
 ·rename_i j;cases h;exact j
 cases h
section
variable {P:Program}{C:Xq}{σ:St}{o:Oper}
def Ql.makeMap {T d:Nat}(ho:o.op=.makeMap T none)(j:o.dst=some d)(h:Nat.ble (d+1) C.n=true)(D:look σ.hp d=none):Ql P C o σ ((σ.set d (.map [])).put d (.map d)):=by
 refine Ql.val λφ a w hr=>?_
 refine⟨.map (some w.heap.size),w.alloc (.map #[] 0),ext φ d ⟨w.heap.size,0,0,[],0⟩,?_,?_⟩
 ·simp[execOp,ho,Instr.makeMap]
 rw[j]
 refine(hr.alloc (cap:=0) (z:=0) D (C.slot h) (ob:=.map []) (obj:=.map #[] 0) ⟨#[],0,heap_alloc_new w _,MapKept.stamped_empty 0,by simp,rfl,by simp,by simp⟩).put (XM h) ?_
 exact .map d ⟨w.heap.size,0,0,[],0⟩ (Xt _ _ _)
def LJ (P:Program)(T:TypeId)(z:V):Prop:=∃i x,P.info? T=some i/\i.zero=some x/\∀I w,XA I w x z
def Ql.lookup {T d b K E:Nat}{x y:Operand}{κ α:Type}[DecidableEq κ]{e:κ->V}{val:κ->Value}{f:α->V}{l:L_ (κ×α)}{k:κ}{z:α}{v:V}(ho:o.op=.lookup T x y false)(hd:o.dst=some d)
  (hn:Nat.ble (d+1) C.n=true) (hx:σ.opd x=some (.map b)) (hb:look σ.hp b=some (.map (QT e f l))) (hy:σ.opd y=some (e k)) (hT:PW P T=some (K,E)) (hk:UJ P K e val) (hz:LJ P E (f z))
  (hv:f ((QW l k).getD z)=v):Ql P C o σ (σ.put d v):=by
 refine Ql.same hd hn λφ a w hr=>?_
 subst hv
 obtain⟨B,hB,he⟩:=(hr.opd hx).map_inv
 have hyv:a.eval y=val k:=hk.inv _ _ _ _ ((hr.opd hy).toDat (hk.edat k))
 obtain⟨D,h,_⟩:=hk.d
 obtain⟨es,clock,h1,h2,h3,h4,h5,h6⟩:=DZ.find hk h (hr.block hB hb) k
 obtain⟨i,zx,hi,hzx,hzd⟩:=hz
 rcases h6 with⟨g1,g2,_⟩|⟨j,xx,v,g1,g2,g3,g4,g5⟩
 ·refine⟨zx,?_,by rw[g1];exact .dat (hzd _ _)⟩
  simp[execOp,ho,he,hyv,Instr.lookup,run_underlying (HB hT),MapKept.run_getObj_map h1,MapKept.run_checkKey h h5,MapKept.run_findKey h g2,zeroValue,typeInfo,hi,hzx]
 refine⟨xx.val,?_,by rw[g1];exact .dat g5⟩
 simp[execOp,ho,he,hyv,Instr.lookup,run_underlying (HB hT),MapKept.run_getObj_map h1,MapKept.run_checkKey h h5,MapKept.run_findKey h g2]
def Ql.lookupOk {T d b K E:Nat}{x y:Operand}{κ α:Type}[DecidableEq κ]{e:κ->V}{val:κ->Value}{f:α->V}{l:L_ (κ×α)}{k:κ}{z:α}{v:V}{t:Bool}(ho:o.op=.lookup T x y true)(hd:o.dst=some d)
  (hn:Nat.ble (d+1) C.n=true) (hx:σ.opd x=some (.map b)) (hb:look σ.hp b=some (.map (QT e f l))) (hy:σ.opd y=some (e k)) (hT:PW P T=some (K,E)) (hk:UJ P K e val) (hz:LJ P E (f z))
  (hv:f ((QW l k).getD z)=v) (ht:(QW l k).isSome=t):Ql P C o σ (σ.put d (.tup [v,.b t])):=by
 refine Ql.same hd hn λφ a w hr=>?_
 subst hv ht
 obtain⟨B,hB,he⟩:=(hr.opd hx).map_inv
 have hyv:a.eval y=val k:=hk.inv _ _ _ _ ((hr.opd hy).toDat (hk.edat k))
 obtain⟨D,h,_⟩:=hk.d
 obtain⟨es,clock,h1,h2,h3,h4,h5,h6⟩:=DZ.find hk h (hr.block hB hb) k
 obtain⟨i,zx,hi,hzx,hzd⟩:=hz
 have two:∀{x:Value} {u:V} {t:Bool},XA (Xf C φ w) w x u->QQ φ (Xf C φ w) w (.tuple #[x,.bool t]) (.tup [u,.b t]):=λ{x u t} h=>
  .dat (.tup _ _ rfl λj x' u' hx hu=>by
   match j with
   | 0=>simp at hx hu;subst hx;subst hu;exact h
   | 1=>simp at hx hu;subst hx;subst hu;exact .b _
   | j+2=>simp at hx)
 rcases h6 with⟨g1,g2,_⟩|⟨j,xx,v,g1,g2,g3,g4,g5⟩
 ·refine⟨.tuple #[zx,.bool false],?_,by rw[g1];exact two (hzd _ _)⟩
  simp[execOp,ho,he,hyv,Instr.lookup,run_underlying (HB hT),MapKept.run_getObj_map h1,MapKept.run_checkKey h h5,MapKept.run_findKey h g2,zeroValue,typeInfo,hi,hzx]
 refine⟨.tuple #[xx.val,.bool true],?_,by rw[g1];exact two g5⟩
 simp[execOp,ho,he,hyv,Instr.lookup,run_underlying (HB hT),MapKept.run_getObj_map h1,MapKept.run_checkKey h h5,MapKept.run_findKey h g2]
def Fx {w:World}{r k:Nat}(o:Obj)(h:k≠r):(w.heap.setIfInBounds r o)[k]? = w.heap[k]? := by
 rw[Zf,if_neg (Ne.symm h)]
def Ql.mapUpdateI {T b K E:Nat}{x y u:Operand}{κ α:Type}[DecidableEq κ]{e:κ->V}{val:κ->Value}{f:α->V}{l:L_ (κ×α)}{k:κ}{v:α}(lt:κ->κ->Bool)(ho:o.op=.mapUpdate T x y u\/o.op=.insert T x y u)(hd:o.dst=none)
  (hx:σ.opd x=some (.map b)) (hb:look σ.hp b=some (.map (QT e f l))) (hy:σ.opd y=some (e k)) (hu:σ.opd u=some (f v)) (hT:PW P T=some (K,E)) (hk:UJ P K e val) (hv:(f v).dat=true):
  Ql P C o σ (σ.set b (.map (QT e f (Ja lt l k v)))):=by
 refine Ql.skp λφ a w hr=>?_
 obtain⟨B,hB,he⟩:=(hr.opd hx).map_inv
 have hyv:a.eval y=val k:=hk.inv _ _ _ _ ((hr.opd hy).toDat (hk.edat k))
 have huv:=(hr.opd hu).toDat hv
 obtain⟨D,hD,_⟩:=hk.d
 have hrep:=hr.block hB hb
 obtain⟨es,clock,h1,h2,h3,h4,h5,h6⟩:=DZ.find hk hD hrep k
 obtain⟨es',clock',h1',_,_,_,r5,r6⟩:=hrep
 rw[h1]at h1';cases h1'
 have hlt:B.b<w.heap.size:=(hr.lt b B _ hB B.self).1
 have write:∀(es2:Array MapEntry) (h:Nat) (l2:L_ (κ×α)),MapKept.Stamped es2 h->(l2.map Prod.fst).Nodup->es2.size=l2.length->
   (∀x∈es2.toList,∃p∈l2,x.key=val p.1/\XA (Xf C φ w) w x.val (f p.2))->(∀p∈l2,∃x∈es2.toList,x.key=val p.1/\XA (Xf C φ w) w x.val (f p.2))->
   RR C φ (σ.set b (.map (QT e f l2))) a { w with heap:=w.heap.setIfInBounds B.b (.map es2 h) }:=by
  intro es2 h l2 a1 a2 a3 a4 a5
  have hI:∀k,Xf C φ w k->Xf C φ { w with heap:=w.heap.setIfInBounds B.b (.map es2 h) } k/\(w.heap.setIfInBounds B.b (.map es2 h))[k]? = w.heap[k]? := λk hk'=>
   ⟨⟨by simpa using hk'.1,hk'.2⟩,Fx _ λe=>hk'.2.2 b B hB (.inl e)⟩
  refine hr.write hB rfl rfl rfl (by simp) (λk hne=>Fx _ hne) ⟨es2,h,by simp[hlt],a1,(RY hk.einj).2 a2,by rw[a3,QT,Ii],λx hx=>?_,λp hp=>?_⟩
  ·obtain⟨p,hp,e1,e2⟩:=a4 x hx
   exact⟨_,YN.2 ⟨p,hp,rfl⟩,by rw[e1];exact hk.dat _ _ _,e2.mono hI⟩
  obtain⟨q,hq,rfl⟩:=YN.1 hp
  obtain⟨x,hx,e1,e2⟩:=a5 q hq
  exact⟨x,hx,by rw[e1];exact hk.dat _ _ _,e2.mono hI⟩
 have old1:∀x∈es.toList,∃p∈l,x.key=val p.1/\XA (Xf C φ w) w x.val (f p.2):=λx hx=>by
  obtain⟨p,hp,a1,a2⟩:=r5 x hx
  obtain⟨q,hq,rfl⟩:=YN.1 hp
  exact⟨q,hq,hk.inv _ _ _ _ a1,a2⟩
 have old2:∀p∈l,∃x∈es.toList,x.key=val p.1/\XA (Xf C φ w) w x.val (f p.2):=λp hp=>by
  obtain⟨x,hx,a1,a2⟩:=r6 _ (YN.2 ⟨p,hp,rfl⟩)
  exact⟨x,hx,hk.inv _ _ _ _ a1,a2⟩
 rcases h6 with⟨g1,g2,g3⟩|⟨j,xx,v0,g1,g2,g3,g4,g5⟩
 ·refine⟨{ w with heap:=w.heap.setIfInBounds B.b (.map (es.push { key:=val k,val:=a.eval u,born:=clock }) (clock+1)) },φ,?_,?_⟩
  ·rcases ho with ho | ho<;>simp[execOp,ho,he,hyv,Instr.mapUpdate,run_underlying (HB hT),MapKept.run_getObj_map h1,MapKept.run_checkKey hD h5,MapKept.run_findKey hD g2,MapKept.run_setObj_map _ h1]
  rw[hd]
  have hms:Ja lt l k v=Mz lt l k v:=by unfold Ja;rw[g1]
  have hmem:∀p,p∈Mz lt l k v↔p=(k,v)\/p∈l:=λp=>by rw[(Qb8 lt l k v).mem_iff,Yt]
  rw[hms]
  refine write _ _ _ (MapKept.stamped_push h2 g3) (by rw[<-hms];exact Qlv lt h3) (by rw[(Qb8 lt l k v).length_eq];simp[h4]) (λx hx=>?_) (λp hp=>?_)
  ·simp only[Array.toList_push,YM,Nw]at hx
   rcases hx with hx | rfl
   ·obtain⟨p,hp,e1,e2⟩:=old1 x hx;exact⟨p,(hmem p).2 (.inr hp),e1,e2⟩
   exact⟨(k,v),(hmem _).2 (.inl rfl),rfl,huv⟩
  rcases(hmem p).1 hp with rfl | hp
  ·exact⟨{ key:=val k,val:=a.eval u,born:=clock },by simp,rfl,huv⟩
  obtain⟨x,hx,e1,e2⟩:=old2 p hp;exact⟨x,by simp only[Array.toList_push,YM];exact .inl hx,e1,e2⟩
 refine⟨{ w with heap:=w.heap.setIfInBounds B.b (.map (es.modify j λx=>{ x with key:=val k,val:=a.eval u }) clock) },φ,?_,?_⟩
 ·rcases ho with ho | ho<;>simp[execOp,ho,he,hyv,Instr.mapUpdate,run_underlying (HB hT),MapKept.run_getObj_map h1,MapKept.run_checkKey hD h5,MapKept.run_findKey hD g2,MapKept.run_setObj_map _ h1,g3,g4,MapKept.run_keyThatStays h5]
 rw[hd]
 have hms:Ja lt l k v=MA l k v:=by unfold Ja;rw[g1]
 have hmem:=QnH h3 ⟨v0,Qez g1⟩ (v:=v)
 have hlen:(MA l k v).length=l.length:=by have:=congrArg List.length (QeA l k v);simpa using this
 have hjlt:j<es.size:=(Cj.1 g3).1
 have hmod:∀i:Nat,(es.modify j λx=>{ x with key:=val k,val:=a.eval u })[i]? = if i=j then some { xx with key:=val k,val:=a.eval u }else es[i]? := λi=>by
  rw[QjH]
  by_cases hij:j=i
  ·subst hij;simp[g3]
  rw[if_neg hij,if_neg (Ne.symm hij)]
 have hkeyj:∀i x,es[i]? = some x->x.key=val k->i=j:=λi x hx hxk=>by
  have hnd:=h2.2.2
  have i1:(es.toList.map (·.key))[i]? = some (val k):=by simp[Ya,hx,hxk]
  have i2:(es.toList.map (·.key))[j]? = some (val k):=by simp[Ya,g3,g4]
  exact(List.getElem?_inj (by simpa using (Cj.1 hx).1) hnd).1 (i1.trans i2.symm)
 rw[hms]
 refine write _ _ _ (MapKept.stamped_modify h2 _ _ (λ_ _=>rfl) λx _ hx=>by rw[g3]at hx;cases hx;exact g4.symm) (by rw[QeA];exact h3) (by rw[Array.size_modify,h4,hlen]) (λx hx=>?_) (λp hp=>?_)
 ·obtain⟨i,hi⟩:=Md.1 hx
  rw[Zg,hmod]at hi
  split at hi
  ·cases hi;exact⟨(k,v),(hmem _).2 (.inl rfl),rfl,huv⟩
  rename_i hne
  obtain⟨p,hp,e1,e2⟩:=old1 x (by rw[Md];exact⟨i,by simpa using hi⟩)
  exact⟨p,(hmem p).2 (.inr ⟨hp,λe=>hne (hkeyj i x hi (by rw[e1,e]))⟩),e1,e2⟩
 rcases(hmem p).1 hp with rfl | ⟨hp,hne⟩
 ·exact⟨_,Md.2 ⟨j,by rw[Zg,hmod,if_pos rfl]⟩,rfl,huv⟩
 obtain⟨x,hx,e1,e2⟩:=old2 p hp
 obtain⟨i,hi⟩:=Md.1 hx
 refine⟨x,Md.2 ⟨i,?_⟩,e1,e2⟩
 have hij:i≠j:=λe=>by
  subst e
  rw[Zg,g3]at hi;cases hi
  exact hne (hk.inj _ _ (by rw[<-e1,g4]))
 rw[Zg,hmod,if_neg hij,<-Zg];exact hi
def Ql.mapUpdate {T b K E:Nat}{x y u:Operand}{κ α:Type}[DecidableEq κ]{e:κ->V}{val:κ->Value}{f:α->V}{l:L_ (κ×α)}{k:κ}{v:α}(lt:κ->κ->Bool)(ho:o.op=.mapUpdate T x y u)(D:o.dst=none)
  (hx:σ.opd x=some (.map b)) (j:look σ.hp b=some (.map (QT e f l))) (hy:σ.opd y=some (e k)) (hu:σ.opd u=some (f v)) (h:PW P T=some (K,E)) (hk:UJ P K e val) (hv:(f v).dat=true):
  Ql P C o σ (σ.set b (.map (QT e f (Ja lt l k v)))):=
 Ql.mapUpdateI lt (.inl ho) D hx j hy hu h hk hv
def Ql.insert {T b K E:Nat}{x y u:Operand}{κ α:Type}[DecidableEq κ]{e:κ->V}{val:κ->Value}{f:α->V}{l:L_ (κ×α)}{k:κ}{v:α}(lt:κ->κ->Bool)(ho:o.op=.insert T x y u)(D:o.dst=none)
  (hx:σ.opd x=some (.map b)) (j:look σ.hp b=some (.map (QT e f l))) (hy:σ.opd y=some (e k)) (hu:σ.opd u=some (f v)) (h:PW P T=some (K,E)) (hk:UJ P K e val) (hv:(f v).dat=true):
  Ql P C o σ (σ.set b (.map (QT e f (Ja lt l k v)))):=
 Ql.mapUpdateI lt (.inr ho) D hx j hy hu h hk hv
end
inductive UR (σ:St) (dflt:Nat):Option Operand->Nat->Prop where
 | no:UR σ dflt none dflt
 | val {x:Operand} {k:IntKind} {n:Int} {l:Nat}:σ.opd x=some (.i k n)->0<=n->n.toNat=l->UR σ dflt (some x) l
section
variable {P:Program}{C:Xq}{σ:St}{o:Oper}{φ:Nat->O_ QU}{a:Act}{w:World}
def FT {k:IntKind}{i:Int}{y:Nat}{h:BoundsCode}(j:0<=i)(D:i.toNat<=y):(Instr.sliceBound (.int k i) y h).run P w=.ok i.toNat w:=by
 have:0<=i/\i<=(y:Int):=⟨j,by omega⟩
 simp[Instr.sliceBound,asIntOf,this]
def Ik (hr:RR C φ σ a w){lo hi:O_ Operand}{l h j cap:Nat}{b:Bool}(hl:UR σ 0 lo l)(hh:UR σ j hi h)(h1:l<=h)(h2:h<=cap):
  (Instr.sliceBounds b j cap (lo.map a.eval) (hi.map a.eval) none).run P w=.ok (l,h,cap) w:=by
 cases hl with
 | no=>
  cases hh with
  | no=>simp[Instr.sliceBounds]
  | val D e2 e3=>subst e3;simp[Instr.sliceBounds,(hr.opd D).i_inv,FT e2 h2]
 | val D e2 e3=>
  subst e3
  cases hh with
  | no=>simp[Instr.sliceBounds,(hr.opd D).i_inv,FT e2 h1]
  | val f1 f2 f3=>subst f3;simp[Instr.sliceBounds,(hr.opd D).i_inv,FT e2 h1,(hr.opd f1).i_inv,FT f2 h2]
def Ql.sliceD {T d l h e z by_:Nat}{x:Operand}{lo hi:O_ Operand}{rows us:L_ (L_ V)}(ho:o.op=.slice T x lo hi none)(hd:o.dst=some d)(hn:Nat.ble (d+1) C.n=true)(hx:σ.opd x=some (.sl z rows))
  (hT:Yb P T=some (e,z,by_)) (hl:UR σ 0 lo l) (hh:UR σ rows.length hi h) (h1:l<=h) (h2:h<=rows.length) (hu:(rows.drop l).take (h-l)=us):Ql P C o σ (σ.put d (.sl z us)):=by
 refine Ql.same hd hn λφ a w hr=>?_
 subst hu
 obtain⟨hu,i,hi',hiz,_⟩:=KS hT
 rcases(hr.opd hx).sl_inv with⟨a0,cap,he,rfl⟩|⟨b,off,cap,he,hI,hcap,hok,c,hc,D⟩
 ·have h0:h=0:=by simpa using h2
  subst h0
  have l0:l=0:=by omega
  subst l0
  refine⟨.slice (if cap=0 then a0 else a0.map (·.add (0*i.size))) 0 cap,?_,.dat (.sl0 _ _ _)⟩
  have hh':UR σ 0 hi 0:=hh
  simp[execOp,ho,he,Instr.sliceAt,Instr.slice,run_underlying hu,Ik hr hl hh' h1 (by simp:0<=cap),sizeOf,typeInfo,hi']
 refine⟨.slice (if cap=l then some ⟨b,off,none⟩else some ((⟨b,off,none⟩:Addr).add (l*i.size))) (h-l) (cap-l),?_,.dat ?_⟩
 ·simp only[execOp,ho,he,Instr.sliceAt,Instr.slice,run_underlying hu,Sr,Ik hr hl hh h1 (by omega:h<=cap),sizeOf,typeInfo,hi',Xc,Xp,run_program,Xm,WU,Sr]
 by_cases hlh:h-l=0
 ·rw[hlh];simp only[Qan];exact .sl0 _ _ _
 have hcl:cap≠l:=by omega
 rw[if_neg hcl,hiz,Addr.add_lit]
 refine .sl b (off+l*z) (h-l) (cap-l) z _ (λj=>c (l*z+j)) hI (by simp;omega) (by omega) (λr hr'=>hok r (Vk (UI hr'))) (λj hj=>?_) (λk r hk j v hj=>?_)
 ·have hle:l*z+(h-l)*z<=rows.length*z:=by rw[<-Dd];exact JL _ (by omega)
  have:=hc (l*z+j) (by omega)
  rw[RV];exact this
 rw[JQ]at hk
 split at hk
 ·rw[Bk]at hk
  have:=D (l+k) r hk j v hj
  rw[Dd]at this
  rw[<-RV];exact this
 cases hk
def RR.shrink (h:RR C φ σ a w){b z:Nat}{rs:L_ (L_ V)}(hb:look σ.hp b=some (.arr z rs))(n:Nat):RR C φ (σ.set b (.arr z (rs.take n))) a w:=by
 refine⟨h.os,h.tape,h.output,h.size,h.kept,h.inj,λo B hB=>?_,h.lt,h.new,h.stay.set hb,h.tmps,h.defers,h.frame,λo ob j=>?_⟩
 ·by_cases e:o=b
  ·subst e;exact⟨_,σ.look_set_same _ _⟩
  obtain⟨ob,D⟩:=h.dom o B hB;exact⟨ob,by rw[σ.look_set_other _ (Ne.symm e)];exact D⟩
 by_cases e:o=b
 ·subst e;rw[σ.look_set_same]at j;cases j
  rcases h.heap o _ hb with⟨B,hB,D,h2,h3,cs,E,h4,h5,h6⟩|⟨D,h2⟩
  ·refine .inl ⟨B,hB,D,by simp;omega,λr hr=>h3 r (UI hr),cs,E,h4,h5,λi r hi=>?_⟩
   rw[JQ]at hi
   split at hi
   ·exact h6 i r hi
   cases hi
  exact .inr ⟨D,by show rs.take n=[];rw[show rs=[]from h2,List.take_nil]⟩
 rw[σ.look_set_other _ (Ne.symm e)]at j;exact h.heap o ob j
def Ql.sliceO {T d b n h e z by_:Nat}{x:Operand}{lo hi:O_ Operand}{rs us:L_ (L_ V)}(ho:o.op=.slice T x lo hi none)(hd:o.dst=some d)(hn:Nat.ble (d+1) C.n=true)(hx:σ.opd x=some (.own b n))
  (hb:look σ.hp b=some (.arr z rs)) (hT:Yb P T=some (e,z,by_)) (hl:UR σ 0 lo 0) (hh:UR σ n hi h) (h2:h<=n) (hu:rs.take h=us):Ql P C o σ ((σ.set b (.arr z us)).put d (.own b h)):=by
 refine Ql.val λφ a w D=>?_
 subst hu
 obtain⟨hu,i,j,hiz,_⟩:=KS hT
 have hs:=D.shrink hb h
 rcases(D.opd hx).own_inv with⟨he,rfl⟩|⟨B,hB,hcap,he⟩
 ·have h0:h=0:=by omega
  subst h0
  refine⟨.slice none 0 0,w,φ,?_,by rw[hd];exact hs.put (XM hn) (.own0 b)⟩
  simp[execOp,ho,he,Instr.sliceAt,Instr.slice,run_underlying hu,Ik D hl hh (by omega) (by omega:0<=0),sizeOf,typeInfo,j]
 refine⟨.slice (some ⟨B.b,B.off,none⟩) h B.cap,w,φ,?_,by rw[hd];exact hs.put (XM hn) (.own b h B hB (by omega))⟩
 simp only[execOp,ho,he,Instr.sliceAt,Instr.slice,run_underlying hu,Ik D hl hh (by omega) (by omega:h<=B.cap),sizeOf,typeInfo,j,Xc,Xp,run_program,Xm,WU,Sr,CU,Addr.add_lit,Mf,ite_self,Nat.sub_zero]
def Qdh (P:Program)(T:TypeId):Bool:=match P.underlying T with
 | some (.interface _)=>false
 | some _=>true
 | none=>false
def QiK {T:TypeId}(h:Qdh P T=true):∃D,P.underlying T=some D/\∀m,D≠.interface m:=by
 unfold Qdh at h
 split at h
 ·cases h
 ·rename_i D j he;exact⟨D,he,λm e=>j m (by rw[e])⟩
 cases h
def Ql.makeInterface {T d:Nat}{x:Operand}{v:V}(ho:o.op=.makeInterface T x)(hd:o.dst=some d)(hn:Nat.ble (d+1) C.n=true)(hx:σ.opd x=some v)(hT:Qdh P T=true):Ql P C o σ (σ.put d (.ifc T v)):=by
 refine Ql.same hd hn λφ a w hr=>⟨.iface T (a.eval x),?_,.ifc T _ _ (hr.opd hx)⟩
 obtain⟨D,j,h⟩:=QiK hT
 have:(Instr.makeInterface T (a.eval x)).run P w=.ok (.iface T (a.eval x)) w:=by
  simp only[Instr.makeInterface,Xc,run_underlying j,Xm]
  cases D<;>first | rfl | exact absurd rfl (h _)
 simp only[execOp,ho,Xc,this,Xm,Xp]
def Ql.typeAssert {T S d:Nat}{x:Operand}{v:V}(ho:o.op=.typeAssert x S T false)(hd:o.dst=some d)(hn:Nat.ble (d+1) C.n=true)(hx:σ.opd x=some (.ifc T v))(hT:Qdh P T=true):Ql P C o σ (σ.put d v):=by
 refine Ql.same hd hn λφ a w hr=>?_
 obtain⟨y,he,hy⟩:=(hr.opd hx).ifc_inv
 refine⟨y,?_,hy⟩
 obtain⟨D,j,h⟩:=QiK hT
 have:(Instr.typeAssert (.iface T y) S T false).run P w=.ok y w:=by
  simp only[Instr.typeAssert,Xc,run_underlying j,Xm]
  cases D<;>first | simp | exact absurd rfl (h _)
 simp only[execOp,ho,he,Xc,this,Xm,Xp]
def Ql.nilCheckL {d b i k:Nat}{x:Operand}(ho:o.op=.nilCheck x)(D:o.dst=some d)(hn:Nat.ble (d+1) C.n=true)(j:σ.opd x=some (.loc b i k)):Ql P C o σ (σ.put d (.loc b i k)):=by
 refine Ql.same D hn λφ a w h=>⟨a.eval x,?_,h.opd j⟩
 obtain⟨B,hB,he⟩:=(h.opd j).loc_inv
 simp[execOp,ho,he]
def Ql.makeFunc {d:Nat}{fn:Fn}{first h:Array Operand}{vs us:L_ V}(ho:o.op=.makeFunc fn first h)(hd:o.dst=some d)(hn:Nat.ble (d+1) C.n=true)(h1:σ.opsV first.toList=some vs)(h2:σ.opsV h.toList=some us):
  Ql P C o σ (σ.put d (.clo fn vs us)):=by
 refine Ql.same hd hn λφ a w hr=>?_
 obtain⟨a1,a2⟩:=hr.opsV _ _ h1
 obtain⟨b1,b2⟩:=hr.opsV _ _ h2
 refine⟨.func fn (first.map a.eval) (h.map a.eval),by simp[execOp,ho,Instr.makeFunc],.clo fn _ _ _ _ (by simpa using a1) (by simpa using b1) (λj x v D hv=>?_) λj x v D hv=>?_⟩
 ·rw[Array.getElem?_map,XT]at D
  obtain⟨y,hy,rfl⟩:=D
  exact a2 j y v (by simpa using hy) hv
 rw[Array.getElem?_map,XT]at D
 obtain⟨y,hy,rfl⟩:=D
 exact b2 j y v (by simpa using hy) hv
end
def Qaz {κ:Type}(e:κ->V)(l:L_ (κ×L_ (L_ V))):L_ (V×L_ (L_ V)):=l.map λp=>(e p.1,p.2)
section
variable {P:Program}{K:TypeId}{κ:Type}[DecidableEq κ]{e:κ->V}{val:κ->Value}{I:Nat->Prop}{w:World}{B:QU}{l:L_ (κ×L_ (L_ V))}{z:Nat}{out:O_ V}
def Qgl (D:∀a b,e a=e b->a=b):((Qaz e l).map Prod.fst).Nodup↔(l.map Prod.fst).Nodup:=by
 have:(Qaz e l).map Prod.fst=(l.map Prod.fst).map e:=by simp[Qaz]
 rw[this]
 constructor
 ·intro h;exact(RU.1 h).imp λj e'=>j (by rw[e'])
 intro h;exact RU.2 (h.imp λj e'=>j (D _ _ e'))
def QjQ (I:Nat->Prop)(w:World)(z:Nat)(e:κ->V)(val:κ->Value)(out:O_ V)(l:L_ (κ×L_ (L_ V)))(x:MapEntry)(E:O_ QU):Prop:=
 ∃q∈l,x.key=val q.1/\((∃F,E=some F/\F.more=[]/\out≠some (e q.1)/\YP I w F z q.2/\x.val=.slice (some ⟨F.b,F.off,none⟩) q.2.length F.cap)\/(E=none/\out=some (e q.1)))
def GL.find (hk:UJ P K e val){D:TypeDesc}(hD:P.underlying K=some D)(h:GL I w B z (Qaz e l) out)(k:κ):∃(es:Array MapEntry) (clock:Nat) (bs:L_ (O_ QU)),w.heap[B.b]? = some (.map es clock)/\MapKept.Stamped es clock/\(l.map Prod.fst).Nodup/\
  es.size=l.length/\bs.length=l.length/\B.more=bs.filterMap (Option.map QU.b)/\(B.b::B.more).Nodup/\MapKept.IsKey D (val k)/\
  (∀(i:Nat) x E,es[i]? = some x->bs[i]? = some E->QjQ I w z e val out l x E)/\(∀q∈l,∃(i:Nat) (x:MapEntry),es[i]? = some x/\x.key=val q.1)/\
  ((QW l k=none/\Instr.findNow D (val k) es.toList 0=some none/\∀x∈es.toList,x.key≠val k)\/
   ∃j x E rs,QW l k=some rs/\Instr.findNow D (val k) es.toList 0=some (some (j,x.val))/\es[j]? = some x/\bs[j]? = some E/\x.key=val k/\∀i y,es[i]? = some y->y.key=val k->i=j):=by
 obtain⟨es,clock,h1,h2,h3,h4,bs,h5,h6,h7,h8,h9⟩:=h
 obtain⟨D',hD',hK⟩:=hk.d
 rw[hD]at hD';cases hD'
 have hn:=(Qgl hk.einj).1 h3
 have hl:(Qaz e l).length=l.length:=by simp[Qaz]
 have hrow:∀(i:Nat) x E,es[i]? = some x->bs[i]? = some E->QjQ I w z e val out l x E:=λi x E hi hE=>by
  obtain⟨p,hp,a1,a2⟩:=h8 i x E hi hE
  obtain⟨q,hq,rfl⟩:=YN.1 hp
  exact⟨q,hq,hk.inv _ _ _ _ a1,a2⟩
 have hbs:∀i x,es[i]? = some x->∃E,bs[i]? = some E:=λi x hi=>by
  have hlt:i<bs.length:=by rw[h5,<-h4];exact(Cj.1 hi).1
  exact⟨_,Qy hlt⟩
 have hks:∀x∈es.toList,MapKept.IsKey D x.key:=λx hx=>by
  obtain⟨i,hi⟩:=Md.1 hx
  rw[Zg]at hi
  obtain⟨E,hE⟩:=hbs i x hi
  obtain⟨q,_,e1,_⟩:=hrow i x E hi hE
  rw[e1];exact hK _
 refine⟨es,clock,bs,h1,h2,hn,by rw[h4,hl],by rw[h5,hl],h6,h7,hK k,hrow,λq hq=>?_,?_⟩
 ·obtain⟨i,x,hi,a1⟩:=h9 _ (YN.2 ⟨q,hq,rfl⟩)
  exact⟨i,x,hi,hk.inv _ _ _ _ a1⟩
 rcases MapKept.findNow_spec (hK k) es.toList 0 hks with⟨g1,g2⟩|⟨j,x,g1,g2,g3⟩
 ·refine .inl ⟨?_,g1,g2⟩
  cases hg:QW l k with
  | none=>rfl
  | some rs=>
   obtain⟨i,x,hi,a1⟩:=h9 (e k,rs) (YN.2 ⟨(k,rs),Qez hg,rfl⟩)
   exact absurd (hk.inv _ _ _ _ a1) (g2 x (Md.2 ⟨i,by rw[Zg];exact hi⟩))
 have g2':es[j]? = some x:=by simpa using g2
 obtain⟨E,hE⟩:=hbs j x g2'
 obtain⟨⟨a,rs⟩,hm,e1,_⟩:=hrow j x E g2' hE
 have:a=k:=hk.inj _ _ (by rw[<-e1,g3])
 subst this
 refine .inr ⟨j,x,E,rs,Qen hn hm,by simpa using g1,g2',hE,g3,λi y hy hyk=>?_⟩
 have i1:(es.toList.map (·.key))[i]? = some (val a):=by simp[Ya,hy,hyk]
 have i2:(es.toList.map (·.key))[j]? = some (val a):=by simp[Ya,g2',g3]
 exact(List.getElem?_inj (by simpa using (Cj.1 hy).1) h2.2.2).1 (i1.trans i2.symm)
def GL.of (hk:UJ P K e val){es:Array MapEntry}{h:Nat}{j:L_ (O_ QU)}(h1:w.heap[B.b]? = some (.map es h))(h2:MapKept.Stamped es h)(h3:(l.map Prod.fst).Nodup)(h4:es.size=l.length)
  (h5:j.length=l.length) (h6:B.more=j.filterMap (Option.map QU.b)) (h7:(B.b::B.more).Nodup) (h8:∀(i:Nat) x E,es[i]? = some x->j[i]? = some E->QjQ I w z e val out l x E)
  (h9:∀q∈l,∃(i:Nat) (x:MapEntry),es[i]? = some x/\x.key=val q.1):GL I w B z (Qaz e l) out:=by
 have hl:(Qaz e l).length=l.length:=by simp[Qaz]
 refine⟨es,h,h1,h2,(Qgl hk.einj).2 h3,by rw[h4,hl],j,by rw[h5,hl],h6,h7,λi x E hi hE=>?_,λp hp=>?_⟩
 ·obtain⟨q,hq,D,a2⟩:=h8 i x E hi hE
  exact⟨_,YN.2 ⟨q,hq,rfl⟩,by rw[D];exact hk.dat _ _ _,a2⟩
 obtain⟨q,hq,rfl⟩:=YN.1 hp
 obtain⟨i,x,hi,D⟩:=h9 q hq
 exact⟨i,x,hi,by rw[D];exact hk.dat _ _ _⟩
end
section
variable {P:Program}{C:Xq}{σ:St}{o:Oper}{φ:Nat->O_ QU}{a:Act}{w:World}{ops:Array Oper}{c:Code}{Q:Exit->St->Prop}
def RR.say' (h:RR C φ σ a w){b:Nat}{ob ob':Ob}(hb:look σ.hp b=some ob)(hs:∀B,φ b=some B->Jv φ (Xf C φ w) w B ob->Jv φ (Xf C φ w) w B ob')(hne:¬ob.Nil):RR C φ (σ.set b ob') a w:=by
 refine⟨h.os,h.tape,h.output,h.size,h.kept,h.inj,λo B D=>?_,h.lt,h.new,h.stay.set hb,h.tmps,h.defers,h.frame,λo ob2 j=>?_⟩
 ·by_cases e:o=b
  ·subst e;exact⟨_,σ.look_set_same _ _⟩
  obtain⟨ob,h1⟩:=h.dom o B D;exact⟨ob,by rw[σ.look_set_other _ (Ne.symm e)];exact h1⟩
 by_cases e:o=b
 ·subst e;rw[σ.look_set_same]at j;cases j
  rcases h.heap o _ hb with⟨B,D,hr⟩|⟨_,h2⟩
  ·exact .inl ⟨B,D,hs B D hr⟩
  exact absurd h2 hne
 rw[σ.look_set_other _ (Ne.symm e)]at j;exact h.heap o ob2 j
def QnI (P:Program)(T:TypeId):Bool:=match P.info? T with
 | some i=>match i.zero with
  | some (.slice none 0 0)=>true
  | _=>false
 | none=>false
def QnJ {T:TypeId}(h:QnI P T=true):∃i,P.info? T=some i/\i.zero=some (.slice none 0 0):=by
 unfold QnI at h
 split at h
 ·rename_i i j
  split at h
  ·rename_i D;exact⟨i,j,D⟩
  cases h
 cases h
def LJ.sl {T:TypeId}{z:Nat}(h:QnI P T=true):LJ P T (.sl z []):=let ⟨i,h1,h2⟩:=QnJ h;⟨i,_,h1,h2,λ_ _=>.sl0 _ _ _⟩
def LJ.one {T:TypeId}{v:Value}(D:((P.info? T).bind (·.zero))=some v):LJ P T (Aa v):=by
 obtain⟨i,h,j⟩:=Nx.1 D
 exact⟨i,v,h,j,λ_ _=>XA.const v⟩
end
section
variable {P:Program}{C:Xq}{σ:St}{o:Oper}{a:Act}{w:World}
end
def QP.toData {P:Program}{f:FuncId}{us:L_ V}{z:Nat}{rows:L_ (L_ V)}(h:QP P f us [] (Qb3 z rows)):QP P f us [] (λv _=>v=.sl z rows):=by
 intro S φ w vals hi hG
 refine(h S φ w vals hi hG).mono ?_
 rintro e w' ⟨x,v,hs',φ',rfl,⟨o,rfl,hl⟩,ho⟩
 have hφ:∀o B,φ o≠some B:=λo B hB=>by obtain⟨ob,h⟩:=(hi.dom o B hB).2.2;cases h
 have hA:∀k,SE S φ' w w' k->SE S (λ_=>none) w w' k:=λk hk=>⟨hk.1,hk.2.1,λ_ _ h=>by cases h⟩
 refine⟨x,.sl z rows,[],λ_=>none,rfl,rfl,ho.os,ho.tape,ho.output,ho.size,ho.kept,λ_ _ _ _ _ h=>(by cases h),λ_ _ h=>(by cases h),λ_ _ _ h=>(by cases h),λ_ _ _ h=>(by cases h),⟨λ_ _ _ h=>(by cases h),λ_ _ _ _ h=>(by cases h)⟩,?_,λ_ _ h=>(by cases h)⟩
 rcases ho.heap o _ hl with⟨B,hB,hrep⟩|⟨hn,hz⟩
 ·rcases ho.rep.own_inv with⟨rfl,h0⟩|⟨B',D,hcap,rfl⟩
  ·have:rows=[]:=FO.1 h0
   subst this;exact .dat (.sl0 _ _ _)
  rw[hB]at D;cases D
  obtain⟨rfl,hrl,hok,cs,E,h1,h2,h3⟩:=hrep
  refine .dat (.sl B.b B.off rows.length B.cap B.z rows (λj=>cs.getD (B.off+j) undef) ⟨(ho.lt o B B.b hB B.self).1,λhlt=>?_,λ_ _ h=>by cases h⟩ rfl hcap hok (λj hj=>?_) (λi r hi j v hj=>?_))
  ·obtain⟨o',B',h4,_⟩:=(ho.lt o B B.b hB B.self).2 hlt
   exact absurd h4 (hφ _ _)
  ·have hle2:rows.length*B.z<=B.cap*B.z:=JL _ hcap
   have:B.off+j<cs.size:=by omega
   simp[World.cell?,h1,Array.getD,this]
  obtain⟨y,hy,hd⟩:=h3 i r hi j v hj
  have:cs.getD (B.off+(i*B.z+j)) undef=y:=by simp[Sp,hy]
  rw[this]
  exact hd.mono λk hk=>⟨hA k hk,rfl⟩
 replace hz:rows=[]:=hz;subst hz
 rcases ho.rep.own_inv with⟨rfl,h0⟩|⟨B',D,hcap,rfl⟩
 ·exact .dat (.sl0 _ _ _)
 rw[hn]at D;cases D
structure Ea where
 ag:List (Nat×Bool)
 sz:List (Nat×Nat)
 fo:List (Nat×List Nat)
 sp:List (Nat×List (Nat×Nat))
 es:List (Nat×(Nat×Nat×Nat))
 ar:List (Nat×(Nat×Nat))
 zv:List (Nat×List V)
 sb:List Nat
 bo:List Nat
 cc:List Nat
 en:List Nat
def foB (P:Program)(t:Nat):L_ Nat->Nat->Bool
 | [],_=>true
 | off::r,i=>(match Mv P t i with | some k=>Nat.beq k off | none=>false)&&foB P t r (i+1)
def Ea.okB (P:Program)(T:Ea):Bool:=
 T.ag.all (λp=>AS P p.1==some p.2)&&T.sz.all (λp=>Av P p.1==some p.2)&&T.fo.all (λp=>foB P p.1 p.2 0)&&T.sp.all (λp=>Qar P p.1==some p.2) &&
 T.es.all (λp=>Yb P p.1==some p.2)&&T.ar.all (λp=>Vo P p.1==some p.2)&&T.sb.all (Qaq P)&&T.bo.all (Qgg P)&&T.cc.all (Qdh P)&&T.en.all (Zi P)
structure De (P:Program) (T:Ea):Prop where
 ag:∀{t b},look T.ag t=some b->AS P t=some b
 sz:∀{t b},look T.sz t=some b->Av P t=some b
 fo:∀{t l},look T.fo t=some l->∀{i:Nat} {k:Nat},l[i]? = some k->Mv P t i=some k
 sp:∀{t b},look T.sp t=some b->Qar P t=some b
 es:∀{t b},look T.es t=some b->Yb P t=some b
 ar:∀{t b},look T.ar t=some b->Vo P t=some b
 zv:∀{t b},look T.zv t=some b->XW P t=some b
 sb:∀{t},Xz T.sb t=true->Qaq P t=true
 bo:∀{t},Xz T.bo t=true->Qgg P t=true
 cc:∀{t},Xz T.cc t=true->Qdh P t=true
 en:∀{t},Xz T.en t=true->Zi P t=true
def QoM {P:Program}{t:Nat}:∀{l:L_ Nat} {j:Nat},foB P t l j=true->∀{i k:Nat},l[i]? = some k->Mv P t (j+i)=some k:=by
 intro l
 induction l with
 | nil=>intro j _ i k h;simp at h
 | cons off r ih=>
  intro j h i k D
  rw[foB,QH]at h
  cases i with
  | zero=>
   simp at D;subst D
   have:=h.1
   split at this
   ·rename_i k' hk';rw[Mf,hk',Yu this]
   cases this
  | succ i=>simp at D;have:=ih h.2 D;rwa[show j+(i+1)=j+1+i by omega]
def Ea.ok {P:Program}{T:Ea}(h:T.okB P=true)(hz:∀p∈T.zv,XW P p.1=some p.2):De P T:=by
 simp only[Ea.okB,QH,XD,beq_iff_eq]at h
 obtain⟨⟨⟨⟨⟨⟨⟨⟨⟨D,h2⟩,h3⟩,h4⟩,h5⟩,h6⟩,h7⟩,h8⟩,h9⟩,j⟩:=h
 exact⟨λe=>D _ (YT e),λe=>h2 _ (YT e),λe i k hk=>by have:=QoM (h3 _ (YT e)) hk;rwa[BA]at this,λe=>h4 _ (YT e),
  λe=>h5 _ (YT e),λe=>h6 _ (YT e),λe=>hz _ (YT e),λe=>h7 _ (HA.1 e),λe=>h8 _ (HA.1 e),λe=>h9 _ (HA.1 e),λe=>j _ (HA.1 e)⟩
inductive Ev where
 | d
 | n (z:Nat)
 | o (us:List (List V))
 | f (n:Nat)
 | t (b:Nat)
inductive KU where
 | no
 | row (r:List V)
 | ix
 | rows (rs:List (List V))
 | ln (n:Nat)
 | num (r:Int)
 | bd (ms:List (Option Nat))
 | c (g:Bool) (ms:List Ev) (r:V)
 | co (g:Bool) (ms:List Ev) (z:Nat) (rows:List (List V)) (m:Nat)
 | cd (g:Bool) (ms:List Ev) (z:Nat) (rows:List (List V)) (m:Nat)
 | cdn (β:Nat) (g:Bool) (ms:List Ev) (z:Nat) (rows:List (List V)) (m:Nat)
 | cb (β:Nat) (g:Bool) (ms:List Ev) (r:V)
 | cob (β:Nat) (g:Bool) (ms:List Ev) (z:Nat) (rows:List (List V)) (m:Nat)
 | any (v:V) (ob:Option Ob)
structure Rs where
 v:V
 ob:Option Ob
 φ:Option Prop
def Rs.holds (r:Rs):Prop:=match r.φ with
 | none=>True
 | some p=>p
def Vr (f:Operand->O_ V):L_ Operand->O_ (L_ V)
 | []=>some []
 | x::r=>match f x with
  | some v=>match Vr f r with
   | some vs=>some (v::vs)
   | none=>none
  | none=>none
def evp (f:Operand->O_ V):L_ (Nat×Operand)->O_ (L_ (Nat×V))
 | []=>some []
 | (i,x)::r=>match f x with
  | some v=>match evp f r with
   | some vs=>some ((i,v)::vs)
   | none=>none
  | none=>none
def Qlw (hp:Nat->O_ Ob)(g:Bool)(m:Ev)(v:V):O_ (V×O_ Prop):=match m with
 | .d=>bif v.datA then some (v,none)else none
 | .n z=>match v with
  | .lit (.slice none 0 0)=>some (.sl z [],none)
  | _=>none
 | .o us=>match v with
  | .own b n=>match hp b with
   | some (.arr z rs)=>bif g then some (.sl z us,some (n<=rs.length/\rs.take n=us))else none
   | _=>none
  | _=>none
 | .f _=>none
 | .t b=>match v with
  | .lit x=>match hp b with
   | some (.nst y u)=>bif g then some (u,some (x=y))else none
   | _=>none
  | _=>none
def Qqq (φ:O_ Prop)(p:Prop):Prop:=match φ with
 | none=>p
 | some q=>q/\p
def NA (hp:Nat->O_ Ob)(g:Bool):L_ Ev->L_ V->O_ (L_ V×(Prop->Prop))
 | [],[]=>some ([],id)
 | m::ms,v::vs=>match Qlw hp g m v with
  | some (u,φ)=>match NA hp g ms vs with
   | some (us,k)=>some (u::us,λp=>Qqq φ (k p))
   | none=>none
  | none=>none
 | _,_=>none
def ikB : IntKind->IntKind->Bool
 | .i8,.i8 | .i16,.i16 | .i32,.i32 | .i64,.i64 | .u8,.u8 | .u16,.u16 | .u32,.u32 | .u64,.u64=>true
 | _,_=>false
def QjR {a b:IntKind}(h:ikB a b=true):a=b:=by cases a<;>cases b<;>first | rfl | cases h
def QnK (T:Ea)(op:BinOp)(h:TypeId):V->V->O_ Rs
 | .i k m,.i j n=>bif ikB k j then match op with
  | .quo=>some ⟨.i k (k.wrap (m.tdiv n)),none,some (n≠0)⟩
  | .rem=>some ⟨.i k (m.tmod n),none,some (n≠0)⟩
  | op=>match Qls op k m n with
   | some v=>some ⟨v,none,none⟩
   | none=>none
  else none
 | .b m,.b n=>bif Xz T.bo h then match op with
  | .eql=>some ⟨.b (m==n),none,none⟩
  | .neq=>some ⟨.b (m != n),none,none⟩
  | _=>none
  else none
 | .s m,.s n=>match op with
  | .eql=>some ⟨.b (JF m n),none,none⟩
  | .neq=>some ⟨.b (!JF m n),none,none⟩
  | _=>none
 | _,_=>none
def unV (op:UnOp):V->O_ Rs
 | .b t=>match op with
  | .not=>some ⟨.b (!t),none,none⟩
  | _=>none
 | .i k m=>match op with
  | .neg=>some ⟨.i k (k.wrap (0-m)),none,none⟩
  | _=>none
 | _=>none
def Qb9 (T:Ea)(j:TypeId)(h:L_ V)(off:Nat)(φ:O_ Prop):O_ Rs:=
 match look T.ag j with
 | some true=>match look T.sz j with
  | some n=>bif Nat.ble (off+n) h.length then some ⟨.agg ((h.drop off).take n),none,φ⟩else none
  | none=>none
 | some false=>match h[off]? with
  | some v=>some ⟨v,none,φ⟩
  | none=>none
 | none=>none
def Qlx (T:Ea)(h:KU)(j:TypeId)(hp:Nat->O_ Ob):V->O_ Rs
 | .loc b i off=>match hp b with
  | some (.var D)=>match i with
   | 0=>Qb9 T j D off none
   | _=>none
  | some (.arr _ rs)=>match h with
   | .row r=>Qb9 T j r off (some (rs[i]? = some r))
   | _=>none
  | _=>none
 | .ro D=>Qb9 T j D 0 none
 | _=>none
def QjS (T:Ea)(h:TypeId)(i:Nat):V->O_ Rs
 | .loc b k off=>match look T.fo h with
  | some l=>match l[i]? with
   | some n=>some ⟨.loc b k (off+n),none,none⟩
   | none=>none
  | none=>none
 | .ro j=>match look T.fo h with
  | some l=>match l[i]? with
   | some n=>some ⟨.ro (j.drop n),none,none⟩
   | none=>none
  | none=>none
 | _=>none
def QjT (T:Ea)(h:KU)(D:TypeId)(hp:Nat->O_ Ob):V->V->O_ Rs
 | .sl z rows,.i _ j=>match look T.es D with
  | some p=>match h with
   | .row r=>bif Nat.beq z p.2.1 then some ⟨.ro r,none,some (0<=j/\rows[j.toNat]? = some r)⟩else none
   | _=>none
  | none=>none
 | .own b n,.i _ j=>match look T.es D with
  | some p=>match hp b with
   | some (.arr z _)=>bif Nat.beq z p.2.1 then some ⟨.loc b j.toNat 0,none,some (0<=j/\j<(n:Int))⟩else none
   | _=>none
  | none=>none
 | .loc b i m,.i _ j=>match look T.ar D with
  | some p=>bif decide (0<=j)&&decide (j<(p.1:Int))then some ⟨.loc b i (m+j.toNat*p.2),none,none⟩else none
  | none=>none
 | .ro cs,.i _ j=>match look T.ar D with
  | some p=>bif decide (0<=j)&&decide (j<(p.1:Int))then some ⟨.ro (cs.drop (j.toNat*p.2)),none,none⟩else none
  | none=>none
 | _,_=>none
def QnL (T:Ea)(h:KU)(j:TypeId):V->O_ Rs
 | .sl _ rows=>bif (look T.es j).isSome then match h with
  | .ln m=>some ⟨.i .i64 m,none,some (rows.length=m)⟩
  | _=>some ⟨.i .i64 rows.length,none,none⟩
  else none
 | .own _ n=>bif (look T.es j).isSome then some ⟨.i .i64 n,none,none⟩else none
 | .lit (.slice none 0 0)=>bif (look T.es j).isSome then some ⟨.i .i64 0,none,none⟩else none
 | .s s=>bif Xz T.sb j then some ⟨.i .i64 s.size,none,none⟩else none
 | _=>none
def mkV (T:Ea)(h:KU)(j d:TypeId):V->V->O_ Rs
 | .i _ l,.i _ c=>match look T.es j with
  | some p=>match look T.zv p.1 with
   | some zs=>match h with
    | .rows rs=>bif Nat.beq zs.length p.2.1&&!(Nat.beq p.2.1 0)&&zs.all V.one&&Nat.ble p.2.2 32768 then
     some ⟨.own d l.toNat,some (.arr p.2.1 rs),some ((decide (0<=l)&&decide (l<=c)&&decide (c<=4294967296))=true/\List.replicate l.toNat zs=rs)⟩else none
    | _=>none
   | none=>none
  | none=>none
 | _,_=>none
def mmV (mx:Bool):V->V->O_ Rs
 | .i k m,.i h n=>bif ikB k h then bif mx then some ⟨.i k (Vm.max2 m n),none,none⟩else some ⟨.i k (Vm.min2 m n),none,none⟩else none
 | _,_=>none
def QjB (P:Program)(C:Xq)(T:Ea)(h:KU)(hp:Nat->O_ Ob)(d fn:Nat)(vs:L_ V):O_ Rs:=
 bif Xz T.en fn then match h with
 | .c g ms r=>match NA hp g ms vs with
  | some (us,k)=>bif (!g&&r.datA)||r.scaA then some ⟨r,none,some (k (QP P fn us [] (Gives r [])))⟩else none
  | none=>none
 | .co g ms z rows m=>match NA hp g ms vs with
  | some (us,k)=>some ⟨.own d m,some (.arr z rows),some (k (QP P fn us [] (Gives (.own 600 m) [(600,.arr z rows)])/\rows.length=m/\(g=false\/∀r∈rows,∀v∈r,v.sca=true)))⟩
  | none=>none
 | .cd g ms z rows m=>match NA hp g ms vs with
  | some (us,k)=>bif !g then some ⟨.sl z rows,none,some (k (QP P fn us [] (Gives (.own 600 m) [(600,.arr z rows)])/\rows.length=m))⟩else none
  | none=>none
 | .cdn β g ms z rows m=>match NA hp g ms vs with
  | some (us,k)=>bif !g then some ⟨.sln β z rows,none,some (k (QP P fn us [] (Gives (.own 600 m) [(600,.arr z rows)])/\rows.length=m/\β<=C.w0.heap.size))⟩else none
  | none=>none
 | .cb β g ms r=>match NA hp g ms vs with
  | some (us,k)=>bif (!g&&r.datA)||r.scaA then some ⟨r,none,some (k (YX β P fn us [] (Gives r [])/\β<=C.w0.heap.size))⟩else none
  | none=>none
 | .cob β g ms z rows m=>match NA hp g ms vs with
  | some (us,k)=>some ⟨.own d m,some (.arr z rows),some (k (YX β P fn us [] (Gives (.own 600 m) [(600,.arr z rows)])/\rows.length=m/\(g=false\/∀r∈rows,∀v∈r,v.sca=true)/\β<=C.w0.heap.size))⟩
  | none=>none
 | _=>none
 else none
def ev1 (P:Program)(C:Xq)(T:Ea)(h:KU)(o:Oper)(d:Nat)(f:Operand->O_ V)(hp:Nat->O_ Ob):O_ Rs:=
 match h with
 | .any v ob=>some ⟨v,ob,some (∀σ:St,(∀x u,f x=some u->σ.opd x=some u)->(∀b u,hp b=some u->look σ.hp b=some u)->(ob.isSome=true->look σ.hp d=none)->Ql P C o σ (σ.addF ⟨d,v,ob⟩))⟩
 | h=>match o.op with
  | .move x=>match f x with
   | some v=>some ⟨v,none,none⟩
   | none=>none
  | .assign x=>match f x with
   | some v=>some ⟨v,none,none⟩
   | none=>none
  | .pick c a b=>match f c with
   | some (.b true)=>match f a with
    | some v=>some ⟨v,none,none⟩
    | none=>none
   | some (.b false)=>match f b with
    | some v=>some ⟨v,none,none⟩
    | none=>none
   | _=>none
  | .binOp op D x y _=>match f x with
   | some v=>match f y with
    | some u=>QnK T op D v u
    | none=>none
   | none=>none
  | .unOp op _ x=>match f x with
   | some v=>unV op v
   | none=>none
  | .alloc D=>match look T.zv D with
   | some zs=>some ⟨.loc d 0 0,some (.var zs),none⟩
   | none=>none
  | .box _ x=>match f x with
   | some (.agg cs)=>some ⟨.loc d 0 0,some (.var cs),none⟩
   | some v=>bif v.one then some ⟨.loc d 0 0,some (.var [v]),none⟩else none
   | none=>none
  | .load D x=>match f x with
   | some v=>Qlx T h D hp v
   | none=>none
  | .fieldAddr D x i=>match f x with
   | some v=>QjS T D i v
   | none=>none
  | .indexAddr D x y=>match f x with
   | some v=>match f y with
    | some u=>QjT T h D hp v u
    | none=>none
   | none=>none
  | .build D parts=>match evp f parts.toList with
   | some qs=>match look T.zv D with
    | some zs=>bif qs.all (λq=>q.2.isV)then match look T.sp D with
      | some pl=>match EK (pl[·]?) zs qs with
       | some vs=>some ⟨.agg vs,none,none⟩
       | none=>none
      | none=>match look T.ar D with
       | some p=>match EK (λi=>some (i*p.2,p.2)) zs qs with
        | some vs=>some ⟨.agg vs,none,none⟩
        | none=>none
       | none=>none
     else none
    | none=>none
   | none=>none
  | .buildSlice D n parts=>match evp f parts.toList with
   | some qs=>match look T.es D with
    | some p=>match look T.zv p.1 with
     | some zs=>bif qs.all (λq=>q.2.isV)&&Nat.beq zs.length p.2.1&&!(Nat.beq p.2.1 0)&&Nat.ble (n*p.2.1) 16777216 then
      match EK (λi=>some (i*p.2.1,p.2.1)) ((List.range (n*p.2.1)).map λk=>zs.getD (k % p.2.1) .J) qs with
      | some vs=>match h with
       | .bd ms=>bif (Dt ms vs).all V.one&&(Dt ms vs).all V.dat then some ⟨.sl p.2.1 (CV p.2.1 n (Dt ms vs)),none,none⟩else none
       | _=>bif vs.all V.one&&vs.all V.dat then some ⟨.own d n,some (.arr p.2.1 (CV p.2.1 n vs)),none⟩else none
      | none=>none
      else none
     | none=>none
    | none=>none
   | none=>none
  | .extract x i=>match f x with
   | some (.tup vs)=>match vs[i]? with
    | some v=>some ⟨v,none,none⟩
    | none=>none
   | _=>none
  | .nilCheck x=>match f x with
   | some (.loc b i k)=>some ⟨.loc b i k,none,none⟩
   | _=>none
  | .makeInterface D x=>match f x with
   | some v=>bif Xz T.cc D then some ⟨.ifc D v,none,none⟩else none
   | none=>none
  | .typeAssert x _ D false=>match f x with
   | some (.ifc t v)=>bif Nat.beq t D&&Xz T.cc D then some ⟨v,none,none⟩else none
   | _=>none
  | .makeFunc fn first caps=>match Vr f first.toList with
   | some vs=>match Vr f caps.toList with
    | some us=>some ⟨.clo fn vs us,none,none⟩
    | none=>none
   | none=>none
  | .index D x y=>match f x with
   | some (.s s)=>match f y with
    | some (.i _ j)=>match h with
     | .num r=>bif Xz T.sb D then some ⟨.i .u8 r,none,some (sidx s j=some r)⟩else none
     | _=>none
    | _=>none
   | _=>none
  | .makeSlice D x y=>match f x with
   | some v=>match f y with
    | some u=>mkV T h D d v u
    | none=>none
   | none=>none
  | .makeMap _ none=>some ⟨.map d,some (.map []),none⟩
  | .call c=>match c.callee with
   | .builtin .max=>match c.args.toList with
    | [x,y]=>match f x with
     | some v=>match f y with
      | some u=>mmV true v u
      | none=>none
     | none=>none
    | _=>none
   | .builtin .min=>match c.args.toList with
    | [x,y]=>match f x with
     | some v=>match f y with
      | some u=>mmV false v u
      | none=>none
     | none=>none
    | _=>none
   | .builtin .len=>match c.args.toList with
    | [x]=>match c.argTypes.toList with
     | [D]=>match f x with
      | some v=>QnL T h D v
      | none=>none
     | _=>none
    | _=>none
   | .value x=>match f x with
    | some (.clo (.func fn) fs cs)=>match Vr f c.args.toList with
     | some vs=>QjB P C T h hp d fn (fs++(vs++cs))
     | none=>none
    | _=>none
   | _=>none
  | _=>none
section
variable {P:Program}{C:Xq}{T:Ea}{o:Oper}{d:Nat}{f:Operand->O_ V}{hp:Nat->O_ Ob}{σ:St}
def Um (D:∀x u,f x=some u->σ.opd x=some u):∀{l:L_ Operand} {vs:L_ V},Vr f l=some vs->σ.opsV l=some vs:=by
 intro l
 induction l with
 | nil=>intro vs h;exact h
 | cons x l ih=>
  intro vs h
  rw[Vr]at h
  split at h
  ·rename_i v hv
   split at h
   ·rename_i us j
    cases h
    simp only[St.opsV,D _ _ hv,ih j]
   cases h
  cases h
def Un (D:∀x u,f x=some u->σ.opd x=some u):∀{l:L_ (Nat×Operand)} {vs:L_ (Nat×V)},evp f l=some vs->σ.opds l=some vs:=by
 intro l
 induction l with
 | nil=>intro vs h;exact h
 | cons x l ih=>
  intro vs h
  obtain⟨i,x⟩:=x
  rw[evp]at h
  split at h
  ·rename_i v hv
   split at h
   ·rename_i us j
    cases h
    simp only[St.opds,D _ _ hv,ih j]
   cases h
  cases h
def XJ {α:Type _}{c:Bool}{x:O_ α}{r:α}(h:(bif c then x else none)=some r):c=true/\x=some r:=by
 cases c with
 | true=>exact⟨rfl,h⟩
 | false=>cases h
def Qeo (h2:∀b u,hp b=some u->look σ.hp b=some u){g:Bool}{m:Ev}{v u:V}{φ:O_ Prop}(h:Qlw hp g m v=some (u,φ))(j:(match φ with | none=>True | some p=>p)):OL σ.hp g v u:=by
 unfold Qlw at h
 cases m with
 | d=>obtain⟨hd,h⟩:=XJ h;cases h;exact .dat _ hd
 | n z=>
  dsimp only at h
  split at h
  ·cases h;exact .nil _
  cases h
 | o us=>
  dsimp only at h
  split at h
  ·dsimp only at h
   split at h
   ·rename_i z rs D
    obtain⟨hg,h⟩:=XJ h;subst hg;cases h;exact .own _ _ _ _ _ rfl (h2 _ _ D) j.1 j.2
   cases h
  cases h
 | f n=>cases h
 | t b=>
  dsimp only at h
  split at h
  ·dsimp only at h
   split at h
   ·rename_i y u D
    obtain⟨hg,h⟩:=XJ h;subst hg;cases h
    have j:_=_:=j
    subst j
    exact .nst _ _ _ rfl (h2 _ _ D)
   cases h
  cases h
def BE (h2:∀b u,hp b=some u->look σ.hp b=some u){g:Bool}:∀{ms:L_ Ev} {vs us:L_ V} {k:Prop->Prop},NA hp g ms vs=some (us,k)->∀{p:Prop},k p->Ny σ.hp g vs us/\p:=by
 intro ms
 induction ms with
 | nil=>
  intro vs us k h p j
  cases vs with
  | nil=>cases h;exact⟨.nil,j⟩
  | cons=>cases h
 | cons m ms ih=>
  intro vs us k h p j
  cases vs with
  | nil=>cases h
  | cons v vs=>
   rw[NA]at h
   split at h
   ·rename_i u φ hu
    split at h
    ·rename_i us' k' D
     cases h
     cases φ with
     | none=>obtain⟨a,b⟩:=ih D j;exact⟨.cons (Qeo h2 hu trivial) a,b⟩
     | some q=>obtain⟨a,b⟩:=ih D j.2;exact⟨.cons (Qeo h2 hu j.1) a,b⟩
    cases h
   cases h
def QaA {j:TypeId}{D:L_ V}{off:Nat}{φ:O_ Prop}{r:Rs}(ok:De P T)(h:Qb9 T j D off φ=some r):
  r.ob=none/\r.φ=φ/\((AS P j=some true/\∃n,Av P j=some n/\Nat.ble (off+n) D.length=true/\r.v=.agg ((D.drop off).take n))\/(AS P j=some false/\D[off]? = some r.v)):=by
 unfold Qb9 at h
 split at h
 ·rename_i hg
  split at h
  ·rename_i n hn
   obtain⟨h1,h⟩:=XJ h
   cases h
   exact⟨rfl,rfl,.inl ⟨ok.ag hg,n,ok.sz hn,h1,rfl⟩⟩
  cases h
 ·rename_i hg
  split at h
  ·rename_i v hv
   cases h
   exact⟨rfl,rfl,.inr ⟨ok.ag hg,hv⟩⟩
  cases h
 cases h
def Yc (P:Program)(C:Xq)(o:Oper)(d:Nat)(r:Rs)(σ:St):Prop:=Ql P C o σ (σ.addF ⟨d,r.v,r.ob⟩)
def Yc.put {r:Rs}(j:r.ob=none)(h:Ql P C o σ (σ.put d r.v)):Yc P C o d r σ:=by
 obtain⟨v,ob,φ⟩:=r
 cases j
 exact h
def QkR {h:KU}{Tx:TypeId}{x:Operand}{v:V}{r:Rs}(ok:De P T)(ho:o.op=.load Tx x)(hd:o.dst=some d)(hn:Nat.ble (d+1) C.n=true)(hx:σ.opd x=some v)
  (h2:∀b u,hp b=some u->look σ.hp b=some u) (e:Qlx T h Tx hp v=some r) (hφ:r.holds):Yc P C o d r σ:=by
 unfold Qlx at e
 split at e
 ·rename_i b i off
  split at e
  ·rename_i cs hb
   split at e
   ·obtain⟨e1,e2,⟨j,n,D,e5,e6⟩|⟨j,D⟩⟩:=QaA ok e
    ·refine Yc.put e1 ?_;rw[e6];exact Ql.loadAL ho hd hn hx (h2 _ _ hb) j D e5 rfl
    exact Yc.put e1 (Ql.load1L ho hd hn hx (h2 _ _ hb) j D)
   cases e
  ·rename_i z rs hb
   split at e
   ·rename_i r'
    obtain⟨e1,e2,⟨j,n,D,e5,e6⟩|⟨j,D⟩⟩:=QaA ok e
    ·rw[Rs.holds,e2]at hφ;refine Yc.put e1 ?_;rw[e6];exact Ql.loadAA ho hd hn hx (h2 _ _ hb) j D hφ e5 rfl
    rw[Rs.holds,e2]at hφ;exact Yc.put e1 (Ql.load1A ho hd hn hx (h2 _ _ hb) j hφ D)
   cases e
  cases e
 ·rename_i cs
  obtain⟨e1,e2,⟨j,n,D,e5,e6⟩|⟨j,D⟩⟩:=QaA ok e
  ·refine Yc.put e1 ?_;rw[e6];rw[BA]at e5;exact Ql.loadAR ho hd hn hx j D e5 rfl
  exact Yc.put e1 (Ql.load1R ho hd hn hx j D)
 cases e
def Qly {op:BinOp}{Tx Ty:TypeId}{x y:Operand}{v u:V}{r:Rs}(ok:De P T)(D:o.op=.binOp op Tx x y Ty)(h:o.dst=some d)(j:Nat.ble (d+1) C.n=true)(hx:σ.opd x=some v)(hy:σ.opd y=some u)
  (e:QnK T op Tx v u=some r) (hφ:r.holds):Yc P C o d r σ:=by
 unfold QnK at e
 split at e
 ·rename_i k m k' n
  replace e:=XJ e;obtain⟨e1,e⟩:=e
  have:=QjR e1;subst this
  split at e
  ·cases e;exact Yc.put rfl (Ql.divi D h j hx hy hφ (.inl ⟨rfl,rfl⟩))
  ·cases e;exact Yc.put rfl (Ql.divi D h j hx hy hφ (.inr ⟨rfl,rfl⟩))
  split at e
  ·rename_i w hw;cases e;exact Yc.put rfl (Ql.bin D h j hx hy hw)
  cases e
 ·replace e:=XJ e;obtain⟨e1,e⟩:=e
  split at e
  ·cases e;exact Yc.put rfl (Ql.eqB D h j hx hy (ok.bo e1) (.inl ⟨rfl,rfl⟩))
  ·cases e;exact Yc.put rfl (Ql.eqB D h j hx hy (ok.bo e1) (.inr ⟨rfl,rfl⟩))
  cases e
 ·split at e
  ·cases e;exact Yc.put rfl (Ql.eqS D h j hx hy (.inl ⟨rfl,rfl⟩))
  ·cases e;exact Yc.put rfl (Ql.eqS D h j hx hy (.inr ⟨rfl,rfl⟩))
  cases e
 cases e
def QjU {D:TypeId}{i:Nat}{x:Operand}{v:V}{r:Rs}(ok:De P T)(ho:o.op=.fieldAddr D x i)(hd:o.dst=some d)(hn:Nat.ble (d+1) C.n=true)(hx:σ.opd x=some v)
  (e:QjS T D i v=some r):Yc P C o d r σ:=by
 unfold QjS at e
 split at e
 ·split at e
  ·rename_i l j
   split at e
   ·rename_i n h;cases e;exact Yc.put rfl (Ql.fieldL ho hd hn hx (ok.fo j h))
   cases e
  cases e
 ·split at e
  ·rename_i l j
   split at e
   ·rename_i n h;cases e;exact Yc.put rfl (Ql.fieldR ho hd hn hx (ok.fo j h) rfl)
   cases e
  cases e
 cases e
def QjV {h:KU}{Tx:TypeId}{x y:Operand}{v u:V}{r:Rs}(ok:De P T)(ho:o.op=.indexAddr Tx x y)(hd:o.dst=some d)(hn:Nat.ble (d+1) C.n=true)(hx:σ.opd x=some v)(hy:σ.opd y=some u)
  (h2:∀b u,hp b=some u->look σ.hp b=some u) (e:QjT T h Tx hp v u=some r) (hφ:r.holds):Yc P C o d r σ:=by
 unfold QjT at e
 split at e
 ·split at e
  ·rename_i p j
   split at e
   ·replace e:=XJ e;obtain⟨D,e⟩:=e
    obtain⟨pe,pz,pb⟩:=p
    have:=Nat.eq_of_beq_eq_true D;dsimp only at this;subst this
    cases e;exact Yc.put rfl (Ql.idxS ho hd hn hx hy (ok.es j) hφ.1 hφ.2)
   cases e
  cases e
 ·split at e
  ·rename_i p j
   split at e
   ·rename_i z rs hb
    replace e:=XJ e;obtain⟨D,e⟩:=e
    obtain⟨pe,pz,pb⟩:=p
    have:=Nat.eq_of_beq_eq_true D;dsimp only at this;subst this
    cases e;exact Yc.put rfl (Ql.idxO ho hd hn hx hy (ok.es j) (h2 _ _ hb) hφ.1 hφ.2)
   cases e
  cases e
 ·split at e
  ·rename_i p j
   replace e:=XJ e;obtain⟨D,e⟩:=e
   rw[QH,QC,QC]at D
   cases e;exact Yc.put rfl (Ql.idxAL ho hd hn hx hy (ok.ar j) D.1 D.2 rfl)
  cases e
 ·split at e
  ·rename_i p j
   replace e:=XJ e;obtain⟨D,e⟩:=e
   rw[QH,QC,QC]at D
   cases e;exact Yc.put rfl (Ql.idxAR ho hd hn hx hy (ok.ar j) D.1 D.2 rfl)
  cases e
 cases e
def Qlz {h:KU}{Tx:TypeId}{x:Operand}{v:V}{r:Rs}(ok:De P T)(ho:o.op=.call { callee:=.builtin .len,args:=#[x],argTypes:=#[Tx] })(hd:o.dst=some d)(hn:Nat.ble (d+1) C.n=true)(hx:σ.opd x=some v)
  (e:QnL T h Tx v=some r) (hφ:r.holds):Yc P C o d r σ:=by
 have es:∀{t:Nat},(look T.es t).isSome=true->∃p,Yb P t=some p:=λ{t} h=>by
  cases hl:look T.es t with
  | none=>rw[hl]at h;cases h
  | some p=>exact⟨p,ok.es hl⟩
 unfold QnL at e
 split at e
 ·replace e:=XJ e;obtain⟨D,e⟩:=e;obtain⟨p,j⟩:=es D
  split at e
  ·cases e;exact Yc.put rfl (Ql.lenS' ho hd hn hx j hφ)
  cases e;exact Yc.put rfl (Ql.lenS ho hd hn hx j)
 ·replace e:=XJ e;obtain⟨D,e⟩:=e;obtain⟨p,j⟩:=es D;cases e;exact Yc.put rfl (Ql.lenO ho hd hn hx j)
 ·replace e:=XJ e;obtain⟨D,e⟩:=e;obtain⟨p,j⟩:=es D;cases e;exact Yc.put rfl (Ql.lenN ho hd hn hx j)
 ·replace e:=XJ e;obtain⟨D,e⟩:=e;cases e;exact Yc.put rfl (Ql.lenStr ho hd hn hx (ok.sb D))
 cases e
def QiL {mx:Bool}{x y:Operand}{v u:V}{ts:Array TypeId}{r:Rs}(D:o.op=.call { callee:=.builtin (if mx then .max else .min),args:=#[x,y],argTypes:=ts })(h:o.dst=some d)(j:Nat.ble (d+1) C.n=true)(hx:σ.opd x=some v)(hy:σ.opd y=some u)
  (e:mmV mx v u=some r):Yc P C o d r σ:=by
 unfold mmV at e
 split at e
 ·replace e:=XJ e;obtain⟨e1,e⟩:=e
  have:=QjR e1;subst this
  cases mx with
  | true=>cases e;exact Yc.put rfl (Ql.max2 D h j hx hy)
  | false=>cases e;exact Yc.put rfl (Ql.min2 D h j hx hy)
 cases e
def QmA {h:KU}{D:TypeId}{x y:Operand}{v u:V}{r:Rs}(ok:De P T)(ho:o.op=.makeSlice D x y)(hd:o.dst=some d)(hn:Nat.ble (d+1) C.n=true)(hx:σ.opd x=some v)(hy:σ.opd y=some u)
  (e:mkV T h D d v u=some r) (hφ:r.holds) (hf:r.ob.isSome=true->look σ.hp d=none):Yc P C o d r σ:=by
 unfold mkV at e
 split at e
 ·split at e
  ·rename_i p j
   split at e
   ·rename_i zs hz
    split at e
    ·replace e:=XJ e;obtain⟨e1,e⟩:=e
     simp only[QH,GW]at e1
     obtain⟨⟨⟨a1,a2⟩,a3⟩,a4⟩:=e1
     cases e
     exact Ql.make' ho hd hn hx hy (ok.es j) (ok.zv hz) (Yu a1) (λh0=>by rw[h0]at a2;cases a2) a3 hφ.1 a4 (hf rfl) hφ.2
    cases e
   cases e
  cases e
 cases e
def Gives.own {fn:Nat}{us:L_ V}{z m:Nat}{rows:L_ (L_ V)}(h:QP P fn us [] (Gives (.own 600 m) [(600,.arr z rows)]))(j:rows.length=m):QP P fn us [] (Qb3 z rows):=
 h.mono λv D ⟨a,b⟩=>⟨600,by rw[a,j],b _ _ rfl⟩
def Gives.ownB {β:Nat}{fn:Nat}{us:L_ V}{z m:Nat}{rows:L_ (L_ V)}(h:YX β P fn us [] (Gives (.own 600 m) [(600,.arr z rows)]))(j:rows.length=m):YX β P fn us [] (Qb3 z rows):=
 h.mono λv D ⟨a,b⟩=>⟨600,by rw[a,j],b _ _ rfl⟩
def YX.toData {P:Program}{β:Nat}{f:FuncId}{us:L_ V}{m z:Nat}{rows:L_ (L_ V)}(h:YX β P f us [] (Gives (.own 600 m) [(600,.arr z rows)]))(hm:rows.length=m):YX β P f us [] (Gives (.sln β z rows) []):=by
 subst hm
 intro S φ w vals hβ hi hG
 refine(h S φ w vals hβ hi hG).mono ?_
 rintro e w' ⟨x,v,hs',φ',rfl,⟨rfl,hl⟩,ho⟩
 have hl:=hl 600 _ rfl
 have hφ:∀o B,φ o≠some B:=λo B hB=>by obtain⟨ob,h⟩:=(hi.dom o B hB).2.2;cases h
 have hA:∀k,SE S φ' w w' k->SE S (λ_=>none) w w' k:=λk hk=>⟨hk.1,hk.2.1,λ_ _ h=>by cases h⟩
 refine⟨x,.sln β z rows,[],λ_=>none,rfl,⟨rfl,λ_ _ h=>by cases h⟩,ho.os,ho.tape,ho.output,ho.size,ho.kept,λ_ _ _ _ _ h=>(by cases h),λ_ _ h=>(by cases h),λ_ _ _ h=>(by cases h),λ_ _ _ h=>(by cases h),⟨λ_ _ _ h=>(by cases h),λ_ _ _ _ h=>(by cases h)⟩,?_,λ_ _ h=>(by cases h)⟩
 rcases ho.heap 600 _ hl with⟨B,hB,hrep⟩|⟨hn,hz⟩
 ·rcases ho.rep.own_inv with⟨rfl,h0⟩|⟨B',D,hcap,rfl⟩
  ·have:rows=[]:=FO.1 h0
   subst this;exact .dat (.sln0 _ _ _ _)
  rw[hB]at D;cases D
  obtain⟨rfl,hrl,hok,cs,E,h1,h2,h3⟩:=hrep
  have hnew:=ho.new _ B B.b hB B.self (by decide)
  have hle2:rows.length*B.z<=B.cap*B.z:=JL _ hcap
  refine .dat (.sln β B.b B.off rows.length B.cap B.z rows cs E (Jn hβ hnew) ⟨(ho.lt _ B B.b hB B.self).1,λhlt=>by omega,λ_ _ h=>by cases h⟩ rfl hcap hok h1 (by omega) (λi r hi j v hj=>?_))
  obtain⟨y,hy,hd⟩:=h3 i r hi j v hj
  have:cs.getD (B.off+(i*B.z+j)) undef=y:=by simp[Sp,hy]
  rw[this]
  exact hd.mono λk hk=>⟨hA k hk,rfl⟩
 replace hz:rows=[]:=hz;subst hz
 rcases ho.rep.own_inv with⟨rfl,h0⟩|⟨B',D,hcap,rfl⟩
 ·exact .dat (.sln0 _ _ _ _)
 rw[hn]at D;cases D
def QkS {h:KU}{fn:Nat}{vs:L_ V}{r:Rs}(ok:De P T)(hE:YZ P C o σ fn vs)(hd:o.dst=some d)(hn:Nat.ble (d+1) C.n=true)(j:C.pg P)
  (h2:∀b u,hp b=some u->look σ.hp b=some u) (e:QjB P C T h hp d fn vs=some r) (hφ:r.holds) (hf:r.ob.isSome=true->look σ.hp d=none):Yc P C o d r σ:=by
 unfold QjB at e
 replace e:=XJ e;obtain⟨e1,e⟩:=e
 split at e
 ·split at e
  ·rename_i us k hv
   replace e:=XJ e;obtain⟨e2,e⟩:=e
   cases e
   obtain⟨D,a2⟩:=BE h2 hv hφ
   refine Yc.put rfl (Ql.callE hE hd hn j D (a2.mono λ_ _ h=>h.1) ?_)
   rw[Kh,QH]at e2
   exact e2.imp (λh=>⟨by simpa using h.1,h.2⟩) id
  cases e
 ·split at e
  ·rename_i us k hv
   cases e
   obtain⟨D,a2,a3,a4⟩:=BE h2 hv hφ
   exact Ql.callOE hE hd hn j D (Gives.own a2 a3) a4 (hf rfl) a3
  cases e
 ·split at e
  ·rename_i us k hv
   replace e:=XJ e;obtain⟨e2,e⟩:=e
   cases e
   obtain⟨D,a2,a3⟩:=BE h2 hv hφ
   exact Yc.put rfl (Ql.callE hE hd hn j D (Gives.own a2 a3).toData (.inl ⟨by simpa using e2,rfl⟩))
  cases e
 ·split at e
  ·rename_i us k hv
   replace e:=XJ e;obtain⟨e2,e⟩:=e
   cases e
   obtain⟨D,a2,a3,a4⟩:=BE h2 hv hφ
   exact Yc.put rfl (Ql.callEB a4 hE hd hn j D ((YX.toData a2.b a3).mono λ_ _ h=>h.1) (.inl ⟨by simpa using e2,rfl⟩))
  cases e
 ·split at e
  ·rename_i us k hv
   replace e:=XJ e;obtain⟨e2,e⟩:=e
   cases e
   obtain⟨D,a2,a3⟩:=BE h2 hv hφ
   refine Yc.put rfl (Ql.callEB a3 hE hd hn j D (a2.mono λ_ _ h=>h.1) ?_)
   rw[Kh,QH]at e2
   exact e2.imp (λh=>⟨by simpa using h.1,h.2⟩) id
  cases e
 ·split at e
  ·rename_i us k hv
   cases e
   obtain⟨D,a2,a3,a4,a5⟩:=BE h2 hv hφ
   exact Ql.callOEB a5 hE hd hn j D (Gives.ownB a2 a3) a4 (hf rfl) a3
  cases e
 cases e
def Qca {h:KU}{r:Rs}(ok:De P T)(hd:o.dst=some d)(hn:Nat.ble (d+1) C.n=true)(hpg:C.pg P)(h1:∀x u,f x=some u->σ.opd x=some u)(h2:∀b u,hp b=some u->look σ.hp b=some u)
  (e:ev1 P C T h o d f hp=some r) (hφ:r.holds) (hf:r.ob.isSome=true->look σ.hp d=none):Yc P C o d r σ:=by
 unfold ev1 at e
 split at e
 ·cases e;exact hφ σ h1 h2 hf
 split at e
 ·rename_i x D
  split at e
  ·rename_i v hv;cases e;exact Yc.put rfl (Ql.move D hd hn (h1 _ _ hv))
  cases e
 ·rename_i x D
  split at e
  ·rename_i v hv;cases e;exact Yc.put rfl (Ql.assign D hd hn (h1 _ _ hv))
  cases e
 ·rename_i c a b D
  split at e
  ·rename_i hc
   split at e
   ·rename_i v hv;cases e;exact Yc.put rfl (Ql.pickT D hd hn (h1 _ _ hc) rfl (h1 _ _ hv))
   cases e
  ·rename_i hc
   split at e
   ·rename_i v hv;cases e;exact Yc.put rfl (Ql.pickF D hd hn (h1 _ _ hc) rfl (h1 _ _ hv))
   cases e
  cases e
 ·rename_i op Tx x y Ty D
  split at e
  ·rename_i v hv
   split at e
   ·rename_i u hu;exact Qly ok D hd hn (h1 _ _ hv) (h1 _ _ hu) e hφ
   cases e
  cases e
 ·rename_i op Tx x D
  split at e
  ·rename_i v hv
   unfold unV at e
   split at e
   ·split at e
    ·cases e;exact Yc.put rfl (Ql.not D hd hn (h1 _ _ hv))
    cases e
   ·split at e
    ·cases e;exact Yc.put rfl (Ql.neg D hd hn (h1 _ _ hv))
    cases e
   cases e
  cases e
 ·rename_i Tx D
  split at e
  ·rename_i zs hz;cases e;exact Ql.alloc D hd hn (ok.zv hz) (hf rfl)
  cases e
 ·rename_i Tx x D
  split at e
  ·rename_i cs hv;cases e;exact Ql.box D hd hn (h1 _ _ hv) (.inr ⟨_,rfl⟩) (hf rfl)
  ·rename_i v hne hv
   replace e:=XJ e;obtain⟨e1,e⟩:=e
   cases e
   have hc:v.cells=[v]:=by cases v<;>first | rfl | exact absurd rfl (hne _)
   have:=Ql.box (P:=P) D hd hn (h1 _ _ hv) (.inl e1) (hf rfl)
   rw[hc]at this;exact this
  cases e
 ·rename_i Tx x D
  split at e
  ·rename_i v hv;exact QkR ok D hd hn (h1 _ _ hv) h2 e hφ
  cases e
 ·rename_i Tx x i D
  split at e
  ·rename_i v hv;exact QjU ok D hd hn (h1 _ _ hv) e
  cases e
 ·rename_i Tx x y D
  split at e
  ·rename_i v hv
   split at e
   ·rename_i u hu;exact QjV ok D hd hn (h1 _ _ hv) (h1 _ _ hu) h2 e hφ
   cases e
  cases e
 ·rename_i Tx parts D
  split at e
  ·rename_i qs hq
   split at e
   ·rename_i zs hz
    replace e:=XJ e;obtain⟨e1,e⟩:=e
    split at e
    ·rename_i pl hpl
     split at e
     ·rename_i vs hvs;cases e;exact Yc.put rfl (Ql.build D hd hn (ok.zv hz) (ok.sp hpl) (Un h1 hq) e1 hvs)
     cases e
    split at e
    ·rename_i p hp'
     split at e
     ·rename_i vs hvs;cases e;exact Yc.put rfl (Ql.buildA D hd hn (ok.zv hz) (ok.ar hp') (Un h1 hq) e1 hvs)
     cases e
    cases e
   cases e
  cases e
 ·rename_i Tx n parts D
  split at e
  ·rename_i qs hq
   split at e
   ·rename_i p hp'
    split at e
    ·rename_i zs hz
     replace e:=XJ e;obtain⟨e1,e⟩:=e
     split at e
     ·rename_i vs hvs
      simp only[QH,GW]at e1
      obtain⟨⟨⟨e3,e4⟩,e5⟩,e6⟩:=e1
      have e4:=Yu e4
      split at e
      ·replace e:=XJ e;obtain⟨e2,e⟩:=e
       cases e
       rw[QH]at e2
       exact Yc.put rfl (Ql.buildSliceD _ D hd hn (ok.es hp') (ok.zv hz) e4 (λh0=>by rw[h0]at e5;cases e5) (JR e6) (Un h1 hq) e3 hvs e2.1 e2.2 rfl)
      replace e:=XJ e;obtain⟨e2,e⟩:=e
      cases e
      rw[QH]at e2
      exact Ql.buildSlice D hd hn (ok.es hp') (ok.zv hz) e4 (λh0=>by rw[h0]at e5;cases e5) (JR e6) (Un h1 hq) e3 hvs e2.1 e2.2 rfl (hf rfl)
     cases e
    cases e
   cases e
  cases e
 ·rename_i x i D
  split at e
  ·rename_i vs hv
   split at e
   ·rename_i v hv';cases e;exact Yc.put rfl (Ql.extract D hd hn (h1 _ _ hv) hv')
   cases e
  cases e
 ·rename_i x D
  split at e
  ·rename_i hv;cases e;exact Yc.put rfl (Ql.nilCheckL D hd hn (h1 _ _ hv))
  cases e
 ·rename_i Tx x D
  split at e
  ·rename_i v hv
   replace e:=XJ e;obtain⟨e1,e⟩:=e
   cases e;exact Yc.put rfl (Ql.makeInterface D hd hn (h1 _ _ hv) (ok.cc e1))
  cases e
 ·rename_i x S Tx D
  split at e
  ·rename_i t v hv
   replace e:=XJ e;obtain⟨e1,e⟩:=e
   rw[QH]at e1
   have:=Yu e1.1;subst this
   cases e;exact Yc.put rfl (Ql.typeAssert D hd hn (h1 _ _ hv) (ok.cc e1.2))
  cases e
 ·rename_i fn first caps D
  split at e
  ·rename_i vs hv
   split at e
   ·rename_i us hu;cases e;exact Yc.put rfl (Ql.makeFunc D hd hn (Um h1 hv) (Um h1 hu))
   cases e
  cases e
 ·rename_i Tx x y D
  split at e
  ·rename_i s hs
   split at e
   ·rename_i k j hj
    split at e
    ·replace e:=XJ e;obtain⟨e1,e⟩:=e
     cases e;exact Yc.put rfl (Ql.idxStr' D hd hn (h1 _ _ hs) (h1 _ _ hj) (ok.sb e1) hφ)
    cases e
   cases e
  cases e
 ·rename_i Tx x y D
  split at e
  ·rename_i v hv
   split at e
   ·rename_i u hu;exact QmA ok D hd hn (h1 _ _ hv) (h1 _ _ hu) e hφ hf
   cases e
  cases e
 ·rename_i D;cases e;exact Ql.makeMap D hd hn (hf rfl)
 ·rename_i c D
  obtain⟨cl,ags,ts⟩:=c
  split at e
  ·rename_i hc
   dsimp only at hc e;subst hc
   split at e
   ·rename_i x y hxy
    split at e
    ·rename_i v hv
     split at e
     ·rename_i u hu
      have ea:ags=#[x,y]:=by rw[<-Ve (xs:=ags),hxy]
      subst ea
      exact QiL (mx:=true) D hd hn (h1 _ _ hv) (h1 _ _ hu) e
     cases e
    cases e
   cases e
  ·rename_i hc
   dsimp only at hc e;subst hc
   split at e
   ·rename_i x y hxy
    split at e
    ·rename_i v hv
     split at e
     ·rename_i u hu
      have ea:ags=#[x,y]:=by rw[<-Ve (xs:=ags),hxy]
      subst ea
      exact QiL (mx:=false) D hd hn (h1 _ _ hv) (h1 _ _ hu) e
     cases e
    cases e
   cases e
  ·rename_i hc
   dsimp only at hc e;subst hc
   split at e
   ·rename_i x hx
    split at e
    ·rename_i Tx hT
     split at e
     ·rename_i v hv
      have ea:ags=#[x]:=by rw[<-Ve (xs:=ags),hx]
      have et:ts=#[Tx]:=by rw[<-Ve (xs:=ts),hT]
      subst ea;subst et
      exact Qlz ok D hd hn (h1 _ _ hv) e hφ
     cases e
    cases e
   cases e
  ·rename_i x hc
   dsimp only at hc e;subst hc
   split at e
   ·rename_i fn fs cs hx
    split at e
    ·rename_i vs hv
     have e1:Xz T.en fn=true:=by unfold QjB at e;exact(XJ e).1
     exact QkS ok (YZ.clo D (h1 _ _ hx) (ok.en e1) (Um h1 hv)) hd hn hpg h2 e hφ hf
    cases e
   cases e
  cases e
 cases e
end
inductive Fr where
 | seq (y:Code)
 | blk (id:Nat)
 | cut (K:St->Prop)
inductive Pt where
 | c (c:Code)
 | o (ops:Array Oper) (l:List Oper)
 | x (e:Exit)
section
variable (P:Program)(C:Xq)(Q:Exit->St->Prop)
def unw : L_ Fr->Exit->St->Prop
 | []=>Q
 | .seq y::k=>Qao (λσ=>XY P C y σ (unw k)) (unw k)
 | .blk id::k=>Sy id (unw k)
 | .cut K::k=>Qao K (unw k)
def AK (pt:Pt)(ks:L_ Fr)(σ:St):Prop:=match pt with
 | .c c=>XY P C c σ (unw P C Q ks)
 | .o ops l=>AL P C ops l σ (unw P C Q ks)
 | .x e=>∀a w,R C σ a w->up C (unw P C Q ks) e a w
end
section
variable {P:Program}{C:Xq}{Q:Exit->St->Prop}{σ σ':St}{ks:L_ Fr}
def AK.weaken {pt:Pt}(h:∀a w,R C σ a w->R C σ' a w)(k:AK P C Q pt ks σ'):AK P C Q pt ks σ:=by
 cases pt with
 | c c=>exact λa w j=>k a w (h a w j)
 | o ops l=>exact λa w j=>k a w (h a w j)
 | x e=>exact λa w j=>k a w (h a w j)
def AK.done {e:Exit}(h:Q e σ):AK P C Q (.x e) [] σ:=λa w j=>⟨σ,h,j⟩
def AK.met {K:St->Prop}(h:K σ):AK P C Q (.x .normal) (.cut K::ks) σ:=λa w j=>⟨σ,h,j⟩
def AK.seq {x y:Code}(h:AK P C Q (.c x) (.seq y::ks) σ):AK P C Q (.c (.seq x y)) ks σ:=XY.seq h
def AK.block {id:Nat}{x:Code}(h:AK P C Q (.c x) (.blk id::ks) σ):AK P C Q (.c (.block id x)) ks σ:=XY.block h
def AK.region {id:Nat}{ops:Array Oper}(h:AK P C Q (.o ops ops.toList) ks σ):AK P C Q (.c (.region id ops false)) ks σ:=XY.region h
def AK.skip (h:AK P C Q (.x .normal) ks σ):AK P C Q (.c .skip) ks σ:=λa w j=>wpIn_skip (h a w j)
def AK.label {l:Nat}(h:AK P C Q (.x .normal) ks σ):AK P C Q (.c (.label l)) ks σ:=λa w j=>wpIn_label (h a w j)
def AK.exit {id:Nat}(h:AK P C Q (.x (.exit id)) ks σ):AK P C Q (.c (.exit id)) ks σ:=λa w j=>wpIn_exit (h a w j)
def AK.ret (h:AK P C Q (.x .ret) ks σ):AK P C Q (.c .ret) ks σ:=λa w j=>wpIn_ret (h a w j)
def AK.nil {ops:Array Oper}(h:AK P C Q (.x .normal) ks σ):AK P C Q (.o ops []) ks σ:=h
def AK.popSeq {y:Code}(h:AK P C Q (.c y) ks σ):AK P C Q (.x .normal) (.seq y::ks) σ:=λa w j=>⟨σ,h,j⟩
def AK.popBlk {id:Nat}(h:AK P C Q (.x .normal) ks σ):AK P C Q (.x .normal) (.blk id::ks) σ:=h
def AK.exSeq {y:Code}{i:Nat}(h:AK P C Q (.x (.exit i)) ks σ):AK P C Q (.x (.exit i)) (.seq y::ks) σ:=h
def AK.exCut {K:St->Prop}{i:Nat}(h:AK P C Q (.x (.exit i)) ks σ):AK P C Q (.x (.exit i)) (.cut K::ks) σ:=h
def AK.exBlk {i j:Nat}(e:Nat.beq i j=true)(h:AK P C Q (.x .normal) ks σ):AK P C Q (.x (.exit i)) (.blk j::ks) σ:=λa w D=>
 let ⟨σ',h1,h2⟩:=h a w D;⟨σ',Qqo e h1,h2⟩
def AK.exBlk' {i j:Nat}(e:Nat.beq i j=false)(h:AK P C Q (.x (.exit i)) ks σ):AK P C Q (.x (.exit i)) (.blk j::ks) σ:=λa w D=>
 let ⟨σ',h1,h2⟩:=h a w D;⟨σ',Qqp e h1,h2⟩
def AK.retPop {f:Fr}(h:AK P C Q (.x .ret) ks σ):AK P C Q (.x .ret) (f::ks) σ:=by
 cases f<;>exact h
def AK.meet {x y:Code}(K:St->Prop)(h:AK P C Q (.c x) (.cut K::ks) σ)(j:∀σ',K σ'->AK P C Q (.c y) ks σ'):AK P C Q (.c (.seq x y)) ks σ:=XY.seqK K h j
def AK.meetX {c:Code}(K:St->Prop)(hx:AK P C Q (.c c) (.cut K::ks) σ)(hy:∀σ',K σ'->AK P C Q (.x .normal) ks σ'):AK P C Q (.c c) ks σ:=by
 intro a w D
 refine wpIn_mono (hx a w D) ?_
 rintro e a w ⟨σ',h,j⟩
 cases e<;>first | exact hy σ' h a w j | exact⟨σ',h,j⟩
def QjW {τ ρ:Type}(E:τ->St->Prop)(h:ρ->Exit->St->Prop)(o:τ⊕ρ):Exit->St->Prop:=
 Qao (λσ'=>∃j,o=.inl j/\E j σ') (λe σ'=>∃r,o=.inr r/\h r e σ')
def QeB {τ ρ:Type}{E:τ->St->Prop}{j:ρ->Exit->St->Prop}{o:τ⊕ρ}{D:τ}(h:o=.inl D)(he:E D σ):AK P C (QjW E j o) (.x .normal) [] σ:=AK.done ⟨D,h,he⟩
def QhM {τ ρ:Type}{E:τ->St->Prop}{j:ρ->Exit->St->Prop}{o:τ⊕ρ}{r:ρ}{i:Nat}(h:o=.inr r)(D:j r (.exit i) σ):AK P C (QjW E j o) (.x (.exit i)) [] σ:=AK.done ⟨r,h,D⟩
def QlA {τ ρ:Type}{E:τ->St->Prop}{j:ρ->Exit->St->Prop}{o:τ⊕ρ}{r:ρ}(h:o=.inr r)(D:j r .ret σ):AK P C (QjW E j o) (.x .ret) [] σ:=AK.done ⟨r,h,D⟩
def AK.loop {τ ρ:Type}{body:τ->O_ (τ⊕ρ)}{c:Code}(E:τ->St->Prop)(j:ρ->Exit->St->Prop){s0:τ}{r:ρ}(hr:Qs body s0=some r)(h0:E s0 σ)
  (round:∀s o σ,E s σ->body s=some o->AK P C (QjW E j o) (.c c) [] σ) (hQ:∀e σ',j r e σ'->AK P C Q (.x e) ks σ'):AK P C Q (.c (.loop c)) ks σ:=by
 intro a w hR
 refine wpIn_mono (XY.loop (Q:=λe σ'=>j r e σ') E j round (PE.1 hr) h0 (λe σ' h=>h) a w hR) ?_
 rintro e a' w' ⟨σ',hp,D⟩
 exact hQ e σ' hp a' w' D
end
def V.isUnd : V->Bool
 | .lit (.tuple a)=>a.isEmpty
 | _=>false
def V.isUnd_eq {v:V}(h:v.isUnd=true):v=.lit undef:=by
 unfold V.isUnd at h
 split at h
 ·rename_i a;rw[Array.isEmpty_iff]at h;subst h;rfl
 cases h
inductive Ent where
 | fn
 | clo
 | me (f:Nat)
 | mv (f e:Nat)
def DO : L_ (Nat×Nat)->Nat->O_ Nat
 | [],_=>none
 | (b,h)::r,a=>bif Nat.beq h a then some b else DO r a
def trC (bk:Nat->O_ Nat):V->O_ V
 | .own a n=>match bk a with
  | some b=>some (.own b n)
  | none=>none
 | .loc a i d=>match bk a with
  | some b=>some (.loc b i d)
  | none=>none
 | .map a=>match bk a with
  | some b=>some (.map b)
  | none=>none
 | .ifc t x=>match trC bk x with
  | some y=>some (.ifc t y)
  | none=>none
 | v=>bif v.datA then some v else none
def trL (bk:Nat->O_ Nat):L_ V->O_ (L_ V)
 | []=>some []
 | v::vs=>match trC bk v with
  | some u=>match trL bk vs with
   | some us=>some (u::us)
   | none=>none
  | none=>none
def trV (bk:Nat->O_ Nat):V->O_ V
 | .agg h=>bif (V.agg h).datA then some (.agg h)else match trL bk h with
  | some us=>some (.agg us)
  | none=>none
 | .tup h=>bif (V.tup h).datA then some (.tup h)else match trL bk h with
  | some us=>some (.tup us)
  | none=>none
 | .clo fn fs h=>match trL bk fs with
  | some us=>match trL bk h with
   | some j=>some (.clo fn us j)
   | none=>none
  | none=>none
 | v=>trC bk v
def QjX (bk:Nat->O_ Nat):L_ V->O_ (L_ V)
 | []=>some []
 | v::vs=>match trV bk v with
  | some u=>match QjX bk vs with
   | some us=>some (u::us)
   | none=>none
  | none=>none
def trO (bk:Nat->O_ Nat):Ob->O_ Ob
 | .var h=>match QjX bk h with
  | some us=>some (.var us)
  | none=>none
 | .lp l K h q=>match QjX bk h with
  | some us=>some (.lp l K us q)
  | none=>none
 | .arr z rs=>some (.arr z rs)
 | .map l=>some (.map l)
 | .grp z l j=>some (.grp z l j)
 | .tbl A z rs=>some (.tbl A z rs)
 | _=>none
def Qpd (bk:Nat->O_ Nat):Ev->V->O_ V
 | .n z,.lit (.slice none 0 0)=>some (.sl z [])
 | .d,v=>trV bk v
 | .f n,.agg h=>match trL bk (h.set n .J)with
  | some us=>match us[n]? with
   | some .J=>some (.agg us)
   | _=>none
  | none=>none
 | _,_=>none
def NB (bk:Nat->O_ Nat):L_ Ev->L_ V->O_ (L_ V)
 | [],[]=>some []
 | m::ms,v::vs=>match Qpd bk m v with
  | some u=>match NB bk ms vs with
   | some us=>some (u::us)
   | none=>none
  | none=>none
 | _,_=>none
def Fy (bk:Nat->O_ Nat)(src:Nat->O_ Ob):L_ (Nat×Nat)->O_ (L_ (Nat×Ob))
 | []=>some []
 | (d,s)::r=>match src s with
  | some ob=>match trO bk ob with
   | some ob'=>match Fy bk src r with
    | some l=>some ((d,ob')::l)
    | none=>none
   | none=>none
  | none=>none
def QnM (P:Program)(T:Ea)(σ:St)(φ:Prop)(c:Call):Ent->O_ (Nat×L_ V×Prop)
 | .fn=>match c.callee with
  | .value (.func f)=>bif Xz T.en f then match Vr σ.opd c.args.toList with
   | some vs=>some (f,vs,φ)
   | none=>none
   else none
  | _=>none
 | .clo=>match c.callee with
  | .value x=>match σ.opd x with
   | some (.clo (.func f) fs h)=>bif Xz T.en f then match Vr σ.opd c.args.toList with
    | some vs=>some (f,fs++(vs++h),φ)
    | none=>none
    else none
   | _=>none
  | _=>none
 | .me f=>match c.callee with
  | .invoke x name=>match σ.opd x with
   | some (.ifc t u)=>bif Xz T.en f then match Vr σ.opd c.args.toList with
    | some vs=>some (f,u::vs,φ/\((Nz P t name=some (f,true)/\QjP P t=true)\/(Nz P t name=some (f,false)/\Qb7 P t=true)))
    | none=>none
    else none
   | _=>none
  | _=>none
 | .mv f e=>match c.callee with
  | .invoke x name=>match σ.opd x with
   | some (.ifc t (.loc b 0 off))=>match look σ.hp b with
    | some (.var h)=>match h[off]? with
     | some r=>bif Xz T.en f then match Vr σ.opd c.args.toList with
      | some vs=>some (f,r::vs,φ/\(Nz P t name=some (f,false)/\Qgj P t e=true/\AS P e=some false))
      | none=>none
      else none
     | none=>none
    | _=>none
   | _=>none
  | _=>none
def cmV (P:Program)(σ:St)(φ:Prop)(d f:Nat)(vs:L_ V)(M N:L_ (Nat×Nat))(dead:L_ Nat)(ms:L_ Ev)(outs:L_ (Nat×Ob))(r:V):O_ (St×Prop):=
 bif Du σ M N dead outs&&BD (M.map Prod.fst)&&BD (N.map Prod.fst)then match NB (DO M) ms vs with
  | some us=>match Fy (DO M) (look σ.hp) M with
   | some h=>match Fy (DO N) (look outs) N with
    | some j=>match trV (DO N) r with
     | some D=>some ((σ.after dead j).put d D,φ/\QP P f us h (Gives r outs))
     | none=>none
    | none=>none
   | none=>none
  | none=>none
 else none
inductive Aw where
 | n (k:Nat)
 | o (h:KU)
 | v (h:KU) (ms:List (Option Nat)) (v:V)
 | br (b:Bool)
 | st (r:List V) (rs:List (List V))
 | app (rs:List (List V)) (m:Nat)
 | x (g:St->St)
 | say (t:Nat) (v:V)
 | sayO (b:Nat) (ob:Ob)
 | to (fr:List (Nat×V)) (hp:List (Nat×Ob))
 | freeze (t:Nat) (us:List (List V))
 | adopt (t b z:Nat)
 | denil (t:Nat) (ms:List (Option Nat))
 | denilO (b:Nat) (ms:List (Option Nat))
 | ren (o o':Nat)
 | kill (b:Nat)
 | keep (ts os:List Nat)
 | frz (b:Nat) (us:List (List V)) (ts os:List Nat)
 | frn (β b:Nat) (us:List (List V)) (ts os:List Nat)
 | adoptO (p i b z:Nat)
 | cm (en:Ent) (M N:List (Nat×Nat)) (dead:List Nat) (ms:List Ev) (outs:List (Nat×Ob)) (r:V)
structure Cfg where
 pt:Pt
 ks:List Fr
 σ:St
 φ:Prop
def SF (φ:Prop):O_ Prop->Prop
 | none=>φ
 | some p=>φ/\p
def ctl : Pt->L_ Fr->St->O_ (Pt×L_ Fr)
 | .c (.seq x y),ks,_=>some (.c x,.seq y::ks)
 | .c (.block id x),ks,_=>some (.c x,.blk id::ks)
 | .c (.region _ ops false),ks,_=>some (.o ops ops.toList,ks)
 | .c .skip,ks,_=>some (.x .normal,ks)
 | .c (.label _),ks,_=>some (.x .normal,ks)
 | .c (.exit i),ks,_=>some (.x (.exit i),ks)
 | .c .ret,ks,_=>some (.x .ret,ks)
 | .c (.cond c x y),ks,σ=>match σ.opd c with
  | some (.b true)=>some (.c x,ks)
  | some (.b false)=>some (.c y,ks)
  | _=>none
 | .o _ [],ks,_=>some (.x .normal,ks)
 | .x .normal,.seq y::ks,_=>some (.c y,ks)
 | .x .normal,.blk _::ks,_=>some (.x .normal,ks)
 | .x (.exit i),.seq _::ks,_=>some (.x (.exit i),ks)
 | .x (.exit i),.cut _::ks,_=>some (.x (.exit i),ks)
 | .x (.exit i),.blk j::ks,_=>bif Nat.beq i j then some (.x .normal,ks)else some (.x (.exit i),ks)
 | .x .ret,_::ks,_=>some (.x .ret,ks)
 | _,_,_=>none
def EM (ops:Array Oper)(o:Oper)(f:Nat->O_ V):O_ Bool:=match o.guard with
 | none=>some true
 | some (j,t)=>match ops[j]? with
  | some h=>match h.dst with
   | some d=>match f d with
    | some (.b true)=>some t
    | some (.b false)=>some (!t)
    | some v=>bif v.isUnd then some false else none
    | none=>none
   | none=>none
  | none=>none
def QmB (T:Ea)(j:TypeId)(σ:St)(φ:Prop):V->V->O_ (St×Prop)
 | .loc b i off,v=>match look σ.hp b with
  | some (.var h)=>match i with
   | 0=>match look T.sz j with
    | some n=>bif v.isV&&Nat.beq v.cells.length n&&v.cells.all V.one&&Nat.ble (off+n) h.length then some (σ.set b (.var (KA h off v.cells)),φ)else none
    | none=>none
   | _=>none
  | _=>none
 | _,_=>none
def storeA (T:Ea)(j:TypeId)(σ:St)(φ:Prop)(r:L_ V)(h:L_ (L_ V)):V->V->O_ (St×Prop)
 | .loc b i off,v=>match look σ.hp b with
  | some (.arr z rs)=>match look T.sz j with
    | some n=>bif v.isV&&Nat.beq v.cells.length n&&v.cells.all V.one&&v.cells.all V.dat&&Nat.ble (off+n) z then
     some (σ.set b (.arr z h),φ/\(rs[i]? = some r/\rs.set i (KA r off v.cells)=h))else none
    | none=>none
  | _=>none
 | _,_=>none
def Yg (P:Program)(C:Xq)(T:Ea)(n:Nat)(h:KU)(j:O_ (L_ (O_ Nat)×V))(o:Oper)(σ:St)(φ:Prop):O_ (St×Prop):=match o.dst with
 | some d=>bif Nat.ble (d+1) n then match ev1 P C T h o d σ.opd (look σ.hp)with
  | some ⟨v,none,q⟩=>match j with
   | none=>some (σ.put d v,SF φ q)
   | some (ms,u)=>some (σ.put d u,SF φ q/\v.denil ms=u)
  | some ⟨v,some ob,q⟩=>match look σ.hp d with
   | none=>match j with
    | none=>some ((σ.set d ob).put d v,SF φ q)
    | some (ms,u)=>some ((σ.set d ob).put d u,SF φ q/\v.denil ms=u)
   | some _=>none
  | none=>none
  else none
 | none=>match o.op with
  | .store D x y=>match σ.opd x with
   | some p=>match σ.opd y with
    | some v=>QmB T D σ φ p v
    | none=>none
   | none=>none
  | _=>none
def QnN (T:Ea)(n:Nat)(σ:St)(φ:Prop)(h:L_ (L_ V))(m:Nat)(d Tx Ty:Nat):V->V->O_ (St×Prop)
 | .own b k,y=>match look σ.hp b with
  | some (.arr z rs)=>match look T.es Tx with
   | some (e,z',by_)=>match look T.zv e with
    | some zs=>bif (look T.es Ty).isSome&&Nat.ble (d+1) n&&!(Nat.ble 617 b)&&Nat.beq z z'&&Nat.beq zs.length z&&!(Nat.beq z 0)&&Nat.ble by_ 32768 then match y with
     | .sl j us=>bif Nat.beq z j then some (σ.app b z d m h,φ/\(rs.length=k/\decide (k+us.length<=4294967296)=true/\rs++us=h/\k+us.length=m))else none
     | .own b' D=>match look σ.hp b' with
      | some (.arr j us)=>bif Nat.beq z j then some (σ.app b z d m h,φ/\(rs.length=k/\decide (k+D<=4294967296)=true/\us.length=D/\rs++us=h/\k+D=m))else none
      | _=>none
     | .lit (.slice none 0 0)=>some (σ.app b z d k rs,φ/\(rs.length=k/\decide (k<=4294967296)=true))
     | _=>none
     else none
    | none=>none
   | none=>none
  | _=>none
 | _,_=>none
def GD {α:Type}(l:L_ (Nat×α)):L_ Nat->O_ (L_ (Nat×α))
 | []=>some []
 | t::h=>match look l t with
  | some v=>match GD l h with
   | some r=>some ((t,v)::r)
   | none=>none
  | none=>none
def V.frzC (b:Nat)(v s:V):V:=match v with
 | .own o k=>bif Nat.beq o b then s else .own o k
 | v=>v
def V.frz (b:Nat)(v s:V):V:=match v with
 | .agg h=>.agg (h.map λv=>v.frzC b s)
 | v=>v.frzC b s
def QjY (b:Nat)(rs us:L_ (L_ V)):V->Prop
 | .own o k=>bif Nat.beq o b then k<=rs.length/\rs.take k=us else True
 | _=>True
def QaB (b:Nat)(rs us:L_ (L_ V)):L_ V->Prop
 | []=>True
 | .own o k::r=>QjY b rs us (.own o k)/\QaB b rs us r
 | _::r=>QaB b rs us r
def QnO (b:Nat)(rs us:L_ (L_ V)):V->Prop
 | .agg h=>QaB b rs us h
 | v=>QjY b rs us v
def V.isOwn (b:Nat):V->Bool
 | .own o _=>Nat.beq o b
 | _=>false
def V.frzB (b:Nat):V->Bool
 | .agg h=>h.all λc=>c.freeC b||c.isOwn b
 | v=>v.freeC b||v.isOwn b
def Qcb (b:Nat)(s:V)(rs us:L_ (L_ V))(σ0:St):L_ Nat->St->Prop->O_ (St×Prop)
 | [],σ,φ=>some (σ,φ)
 | t::h,σ,φ=>match look σ0.fr t with
  | some v=>bif v.frzB b then Qcb b s rs us σ0 h (σ.put t (v.frz b s)) (φ/\QnO b rs us v)else none
  | none=>none
def QhN (b:Nat)(s:V)(rs us:L_ (L_ V))(σ0:St):L_ Nat->St->Prop->O_ (St×Prop)
 | [],σ,φ=>some (σ,φ)
 | p::j,σ,φ=>match look σ0.hp p with
  | some (.var h)=>bif !(Nat.beq p b)&&h.all (λc=>c.freeC b||c.isOwn b)&&(look σ.hp p).isSome then QhN b s rs us σ0 j (σ.set p (.var (h.map λv=>v.frzC b s))) (φ/\QaB b rs us h)else none
  | _=>none
def QnP (P:Program)(C:Xq)(T:Ea)(n:Nat):Aw->Pt->L_ Fr->St->Prop->O_ Cfg
 | .o h,.o ops (o::l),ks,σ,φ=>match EM ops o (look σ.fr)with
  | some true=>match Yg P C T n h none o σ φ with
   | some (σ',φ')=>some ⟨.o ops l,ks,σ',φ'⟩
   | none=>none
  | _=>none
 | .v h ms u,.o ops (o::l),ks,σ,φ=>match EM ops o (look σ.fr)with
  | some true=>match Yg P C T n h (some (ms,u)) o σ φ with
   | some (σ',φ')=>some ⟨.o ops l,ks,σ',φ'⟩
   | none=>none
  | _=>none
 | .st r rs,.o ops (o::l),ks,σ,φ=>match EM ops o (look σ.fr)with
  | some true=>match o.dst with
   | none=>match o.op with
    | .store Tx x y=>match σ.opd x with
     | some p=>match σ.opd y with
      | some v=>match storeA T Tx σ φ r rs p v with
       | some (σ',φ')=>some ⟨.o ops l,ks,σ',φ'⟩
       | none=>none
      | none=>none
     | none=>none
    | _=>none
   | some _=>none
  | _=>none
 | .app rs m,.o ops (o::l),ks,σ,φ=>match EM ops o (look σ.fr)with
  | some true=>match o.dst with
   | some d=>match o.op with
    | .call c=>match c.callee with
     | .builtin .append=>match c.args.toList with
      | [x,y]=>match c.argTypes.toList with
       | [Tx,Ty]=>match σ.opd x with
        | some p=>match σ.opd y with
         | some v=>match QnN T n σ φ rs m d Tx Ty p v with
          | some (σ',φ')=>some ⟨.o ops l,ks,σ',φ'⟩
          | none=>none
         | none=>none
        | none=>none
       | _=>none
      | _=>none
     | _=>none
    | _=>none
   | none=>none
  | _=>none
 | .x g,.o ops (o::l),ks,σ,φ=>match EM ops o (look σ.fr)with
  | some true=>some ⟨.o ops l,ks,g σ,φ/\Ql P C o σ (g σ)⟩
  | _=>none
 | .cm en M N dead ms outs r,.o ops (o::l),ks,σ,φ=>match EM ops o (look σ.fr)with
  | some true=>match o.dst with
   | some d=>bif Nat.ble (d+1) n then match o.op with
    | .call c=>match QnM P T σ φ c en with
     | some (f,vs,φ1)=>match cmV P σ φ1 d f vs M N dead ms outs r with
      | some (σ',φ')=>some ⟨.o ops l,ks,σ',φ'⟩
      | none=>none
     | none=>none
    | _=>none
    else none
   | none=>none
  | _=>none
 | .br b,.c (.cond c x y),ks,σ,φ=>match σ.opd c with
  | some (.b t)=>match b with
   | true=>some ⟨.c x,ks,σ,φ/\t=true⟩
   | false=>some ⟨.c y,ks,σ,φ/\t=false⟩
  | _=>none
 | .say t v,pt,ks,σ,φ=>match look σ.fr t with
  | some u=>some ⟨pt,ks,σ.put t v,φ/\u=v⟩
  | none=>none
 | .sayO b ob,pt,ks,σ,φ=>match look σ.hp b with
  | some u=>some ⟨pt,ks,σ.set b ob,φ/\u=ob⟩
  | none=>none
 | .to fr hp,pt,ks,σ,φ=>some ⟨pt,ks,⟨fr,hp⟩,φ/\(FR σ.fr fr/\EL σ.hp hp/\St.closed ⟨fr,hp⟩=true)⟩
 | .freeze t us,pt,ks,σ,φ=>match look σ.fr t with
  | some (.own b k)=>match look σ.hp b with
   | some (.arr z rs)=>bif !(Nat.ble 615 b)then some ⟨pt,ks,(σ.kill b).put t (.sl z us),φ/\(k<=rs.length/\rs.take k=us)⟩else none
   | _=>none
  | _=>none
 | .adopt t b z,pt,ks,σ,φ=>match look σ.fr t with
  | some (.lit (.slice none 0 0))=>match look σ.hp b with
   | none=>bif Nat.ble 617 b then none else some ⟨pt,ks,(σ.set b (.arr z [])).put t (.own b 0),φ⟩
   | some _=>none
  | _=>none
 | .denil t ms,pt,ks,σ,φ=>match look σ.fr t with
  | some v=>some ⟨pt,ks,σ.put t (v.denil ms),φ⟩
  | none=>none
 | .denilO b ms,pt,ks,σ,φ=>match look σ.hp b with
  | some (.var D)=>some ⟨pt,ks,σ.set b (.var (Dt ms D)),φ⟩
  | _=>none
 | .ren o o',pt,ks,σ,φ=>bif !(Nat.ble 615 o)&&!(Nat.ble 615 o')&&(look σ.hp o').isNone then some ⟨pt,ks,σ.ren o o',φ⟩else none
 | .kill b,pt,ks,σ,φ=>some ⟨pt,ks,σ.kill b,φ⟩
 | .frz b us j os,pt,ks,σ,φ=>match look σ.hp b with
  | some (.arr z rs)=>bif !(Nat.ble 615 b)then match Qcb b (.sl z us) rs us σ j (σ.kill b) True with
   | some (σ1,φ1)=>match QhN b (.sl z us) rs us σ os σ1 φ1 with
    | some (σ2,φ2)=>some ⟨pt,ks,σ2,φ/\φ2⟩
    | none=>none
   | none=>none
   else none
  | _=>none
 | .frn β b us j os,pt,ks,σ,φ=>match look σ.hp b with
  | some (.arr z rs)=>bif !(Nat.ble 615 b)then match Qcb b (.sln β z us) rs us σ j (σ.kill b) True with
   | some (σ1,φ1)=>match QhN b (.sln β z us) rs us σ os σ1 φ1 with
    | some (σ2,φ2)=>some ⟨pt,ks,σ2,φ/\(φ2/\β<=C.w0.heap.size)⟩
    | none=>none
   | none=>none
   else none
  | _=>none
 | .adoptO p i b z,pt,ks,σ,φ=>match look σ.hp p with
  | some (.var D)=>match D[i]? with
   | some (.lit (.slice none 0 0))=>match look σ.hp b with
    | none=>bif Nat.beq p b||Nat.ble 617 b then none else some ⟨pt,ks,(σ.set b (.arr z [])).set p (.var (D.set i (.own b 0))),φ⟩
    | some _=>none
   | _=>none
  | _=>none
 | .keep j os,pt,ks,σ,φ=>match GD σ.fr j with
  | some fr=>match GD σ.hp os with
   | some hp=>bif St.closed ⟨fr,hp⟩then some ⟨pt,ks,⟨fr,hp⟩,φ⟩else none
   | none=>none
  | none=>none
 | _,_,_,_,_=>none
def plain (P:Program)(C:Xq)(T:Ea)(n:Nat):Nat->Pt->L_ Fr->St->Prop->O_ Cfg
 | 0,pt,ks,σ,φ=>some ⟨pt,ks,σ,φ⟩
 | k+1,.o ops (o::l),ks,σ,φ=>match EM ops o (look σ.fr)with
  | some true=>match Yg P C T n .no none o σ φ with
   | some (σ',φ')=>plain P C T n k (.o ops l) ks σ' φ'
   | none=>none
  | some false=>match o.dst with
   | some d=>bif Nat.ble (d+1) n then plain P C T n k (.o ops l) ks (σ.put d (.lit undef)) φ else none
   | none=>plain P C T n k (.o ops l) ks σ φ
  | none=>none
 | k+1,pt,ks,σ,φ=>match ctl pt ks σ with
  | some (j,h)=>plain P C T n k j h σ φ
  | none=>none
def go (P:Program)(C:Xq)(T:Ea)(n:Nat):L_ Aw->Pt->L_ Fr->St->Prop->O_ Cfg
 | [],pt,ks,σ,φ=>some ⟨pt,ks,σ,φ⟩
 | .n k::D,pt,ks,σ,φ=>match plain P C T n k pt ks σ φ with
  | some ⟨j,h,σ',φ'⟩=>go P C T n D j h σ' φ'
  | none=>none
 | d::D,pt,ks,σ,φ=>match QnP P C T n d pt ks σ φ with
  | some ⟨j,h,σ',φ'⟩=>go P C T n D j h σ' φ'
  | none=>none
section
variable {P:Program}{C:Xq}{T:Ea}{Q:Exit->St->Prop}{n:Nat}{φ:Nat->O_ QU}{σ:St}{a:Act}{w:World}
def QlB (P:Program)(C:Xq)(Q:Exit->St->Prop)(pt:Pt)(ks:L_ Fr)(σ:St)(φ:Prop)(c:Cfg):Prop:=c.φ->φ/\(AK P C Q c.pt c.ks c.σ->AK P C Q pt ks σ)
def SG {φ:Prop}{q:O_ Prop}{v:V}{ob:O_ Ob}(h:SF φ q):φ/\Rs.holds ⟨v,ob,q⟩:=by
 cases q with
 | none=>exact⟨h,trivial⟩
 | some p=>exact h
def QmC {pt pt':Pt}{ks D:L_ Fr}{σ:St}(h:ctl pt ks σ=some (pt',D))(k:AK P C Q pt' D σ):AK P C Q pt ks σ:=by
 unfold ctl at h
 split at h
 ·cases h;exact AK.seq k
 ·cases h;exact AK.block k
 ·cases h;exact AK.region k
 ·cases h;exact AK.skip k
 ·cases h;exact AK.label k
 ·cases h;exact AK.exit k
 ·cases h;exact AK.ret k
 ·split at h
  ·rename_i hc;cases h;exact XY.cond_true hc k
  ·rename_i hc;cases h;exact XY.cond_false hc k
  cases h
 ·cases h;exact AK.nil k
 ·cases h;exact AK.popSeq k
 ·cases h;exact AK.popBlk k
 ·cases h;exact AK.exSeq k
 ·cases h;exact AK.exCut k
 ·rename_i _ i j ks
  cases hb:Nat.beq i j with
  | true=>rw[hb]at h;cases h;exact AK.exBlk hb k
  | false=>rw[hb]at h;cases h;exact AK.exBlk' hb k
 ·cases h;exact AK.retPop k
 cases h
def PF {ops:Array Oper}{o:Oper}{f:Nat->O_ V}{b:Bool}(h:EM ops o f=some b):
  (o.guard=none/\b=true)\/∃j t d,o.guard=some (j,t)/\((ops[j]?).bind (·.dst))=some d/\((∃u,f d=some (.b u)/\b=(u==t))\/(f d=some (.lit undef)/\b=false)):=by
 unfold EM at h
 split at h
 ·rename_i hg;cases h;exact .inl ⟨hg,rfl⟩
 rename_i j t hg
 split at h
 ·rename_i oj hj
  split at h
  ·rename_i d hd
   have hjd:((ops[j]?).bind (·.dst))=some d:=by rw[hj];exact hd
   refine .inr ⟨j,t,d,hg,hjd,?_⟩
   split at h
   ·rename_i D;cases h;exact .inl ⟨true,D,by simp⟩
   ·rename_i D;cases h;exact .inl ⟨false,D,by simp⟩
   ·rename_i v _ _ D
    obtain⟨h1,h⟩:=XJ h
    cases h
    exact .inr ⟨by rw[D,V.isUnd_eq h1],rfl⟩
   cases h
  cases h
 cases h
def AL.want {ops:Array Oper}{o:Oper}{l:L_ Oper}{σ σ':St}{Q:Exit->St->Prop}(h:EM ops o (look σ.fr)=some true)(hs:Ql P C o σ σ')(k:AL P C ops l σ' Q):AL P C ops (o::l) σ Q:=by
 rcases PF h with⟨hg,_⟩|⟨j,t,d,hg,hj,⟨u,hu,D⟩|⟨_,D⟩⟩
 ·exact AL.cons hg hs k
 ·have:u=t:=by simpa using D.symm
  exact AL.consGT hg hj hu this hs k
 cases D
def AL.pass {ops:Array Oper}{o:Oper}{l:L_ Oper}{σ:St}{Q:Exit->St->Prop}{d:Nat}(h:EM ops o (look σ.fr)=some false)(hd:o.dst=some d)(hn:Nat.ble (d+1) C.n=true)(k:AL P C ops l (σ.put d (.lit undef)) Q):AL P C ops (o::l) σ Q:=by
 rcases PF h with⟨_,D⟩|⟨j,t,e,hg,hj,⟨u,hu,D⟩|⟨hu,_⟩⟩
 ·cases D
 ·have:u=!t:=by cases u<;>cases t<;>first | rfl | cases D
  exact AL.consNT hg hj hu this hd hn k
 exact AL.consU hg hj hu hd hn k
def AL.pass0 {ops:Array Oper}{o:Oper}{l:L_ Oper}{σ:St}{Q:Exit->St->Prop}(h:EM ops o (look σ.fr)=some false)(hd:o.dst=none)(k:AL P C ops l σ Q):AL P C ops (o::l) σ Q:=by
 rcases PF h with⟨_,D⟩|⟨j,t,e,hg,hj,⟨u,hu,D⟩|⟨hu,_⟩⟩
 ·cases D
 ·have:u=!t:=by cases u<;>cases t<;>first | rfl | cases D
  exact AL.consNT0 hg hj hu this hd k
 exact AL.consU0 hg hj hu hd k
def RR.putDenil {d:Nat}{v:V}{ms:L_ (O_ Nat)}(h:RR C φ (σ.put d v) a w):RR C φ (σ.put d (v.denil ms)) a w:=by
 obtain⟨x,hx,D⟩:=h.frame d v (QA _ _ _)
 refine(h.say hx (D.denil (ms:=ms))).le λt u j=>?_
 by_cases e:d=t
 ·subst e
  have j:look ((d,v.denil ms)::σ.fr) d=some u:=j
  rw[QA]at j
  show look ((d,v.denil ms)::_) d=some u
  rw[QA];exact j
 have j:look ((d,v.denil ms)::σ.fr) t=some u:=j
 rw[Qv _ _ e]at j
 show look ((d,v.denil ms)::(d,v)::σ.fr) t=some u
 rw[Qv _ _ e,Qv _ _ e];exact j
def Ql.denil {o:Oper}{σ σ':St}{d:Nat}{v:V}{ms:L_ (O_ Nat)}(h:Ql P C o σ (σ'.put d v)):Ql P C o σ (σ'.put d (v.denil ms)):=
 λa w D next Q hn=>h a w D next Q λj w' ⟨φ,hr⟩=>hn j w' ⟨φ,hr.putDenil⟩
def Qcc {h:KU}{sv:O_ (L_ (O_ Nat)×V)}{o:Oper}{σ σ':St}{φ φ':Prop}(ok:De P T)(hN:Jo P C n)(e:Yg P C T n h sv o σ φ=some (σ',φ'))(hφ:φ'):φ/\Ql P C o σ σ':=by
 have hn:=hN.n
 unfold Yg at e
 split at e
 ·rename_i d hd
  replace e:=XJ e;obtain⟨e1,e⟩:=e
  rw[<-hn]at e1
  split at e
  ·rename_i v q j
   have key:∀q':Prop,SF φ q/\q'->φ/\Ql P C o σ (σ.put d v):=λq' h=>by
    obtain⟨a,b⟩:=SG h.1
    exact⟨a,Qca ok hd e1 hN.g (λ_ _ h=>h) (λ_ _ h=>h) j b (λh=>by cases h)⟩
   split at e
   ·cases e;exact key True ⟨hφ,trivial⟩
   cases e;obtain⟨a,b⟩:=hφ;subst b;obtain⟨D,a2⟩:=key True ⟨a,trivial⟩;exact⟨D,a2.denil⟩
  ·rename_i v ob q j
   split at e
   ·rename_i hl
    have key:∀q':Prop,SF φ q/\q'->φ/\Ql P C o σ ((σ.set d ob).put d v):=λq' h=>by
     obtain⟨a,b⟩:=SG h.1
     exact⟨a,Qca ok hd e1 hN.g (λ_ _ h=>h) (λ_ _ h=>h) j b (λ_=>hl)⟩
    split at e
    ·cases e;exact key True ⟨hφ,trivial⟩
    cases e;obtain⟨a,b⟩:=hφ;subst b;obtain⟨D,a2⟩:=key True ⟨a,trivial⟩;exact⟨D,a2.denil⟩
   cases e
  cases e
 rename_i hd
 split at e
 ·rename_i Tx x y ho
  split at e
  ·rename_i p hp
   split at e
   ·rename_i v hv
    unfold QmB at e
    split at e
    ·rename_i b i off v
     split at e
     ·rename_i cs hb
      split at e
      ·split at e
       ·rename_i k hk
        replace e:=XJ e;obtain⟨e2,e⟩:=e
        cases e
        simp only[QH]at e2
        obtain⟨⟨⟨D,a2⟩,a3⟩,a4⟩:=e2
        exact⟨hφ,Ql.storeL ho hd hp hb hv (V.isV_or D) (ok.sz hk) (Yu a2) a3 a4 rfl⟩
       cases e
      cases e
     cases e
    cases e
   cases e
  cases e
 cases e
def QlC {o:Oper}{σ σ':St}{φ φ':Prop}{rs':L_ (L_ V)}{m d Tx Ty:Nat}{x y:Operand}{p v:V}(ok:De P T)(hN:Jo P C n)(ho:o.op=.call { callee:=.builtin .append,args:=#[x,y],argTypes:=#[Tx,Ty] })(hd:o.dst=some d)
  (hx:σ.opd x=some p) (hy:σ.opd y=some v) (e:QnN T n σ φ rs' m d Tx Ty p v=some (σ',φ')) (hφ:φ'):φ/\Ql P C o σ σ':=by
 have hn:=hN.n
 unfold QnN at e
 split at e
 ·rename_i b k y'
  split at e
  ·rename_i z rs hb
   split at e
   ·rename_i et z' by_ j
    split at e
    ·rename_i zs hz
     replace e:=XJ e;obtain⟨e1,e⟩:=e
     simp only[QH,GW]at e1
     obtain⟨⟨⟨⟨⟨⟨a1,a2⟩,a3⟩,a4⟩,a5⟩,D⟩,a7⟩:=e1
     have a4:=Yu a4;subst a4
     have a5:=Yu a5
     have D:z≠0:=λh=>by rw[h]at D;cases D
     rw[<-hn]at a2
     obtain⟨⟨e2,z2,by2⟩,hU⟩:∃q,Yb P Ty=some q:=by
      cases hl:look T.es Ty with
      | none=>rw[hl]at a1;cases a1
      | some q=>exact⟨q,ok.es hl⟩
     split at e
     ·rename_i z'' us
      replace e:=XJ e;obtain⟨e3,e⟩:=e
      have:=Yu e3;subst this
      cases e
      obtain⟨h,h1,h2,h3,h4⟩:=hφ
      exact⟨h,Ql.appS ho hd a2 hx hb a3 h1 (ok.es j) hU (ok.zv hz) a5 D a7 h2 hy h3 h4⟩
     ·rename_i b' k'
      split at e
      ·rename_i z'' us hb'
       replace e:=XJ e;obtain⟨e3,e⟩:=e
       have:=Yu e3;subst this
       cases e
       obtain⟨h,h1,h2,h3,h4,h5⟩:=hφ
       exact⟨h,Ql.appO ho hd a2 hx hb a3 h1 (ok.es j) hU (ok.zv hz) a5 D a7 h2 hy hb' h3 h4 h5⟩
      cases e
     ·cases e
      obtain⟨h,h1,h2⟩:=hφ
      exact⟨h,Ql.appN ho hd a2 hx hb a3 h1 (ok.es j) hU (ok.zv hz) a5 D a7 h2 hy⟩
     cases e
    cases e
   cases e
  cases e
 cases e
def QjZ {o:Oper}{σ σ':St}{φ φ':Prop}{D:TypeId}{x y:Operand}{p v:V}{r:L_ V}{j:L_ (L_ V)}(ok:De P T)(ho:o.op=.store D x y)(hd:o.dst=none)(hx:σ.opd x=some p)(hy:σ.opd y=some v)
  (e:storeA T D σ φ r j p v=some (σ',φ')) (h:φ'):φ/\Ql P C o σ σ':=by
 unfold storeA at e
 split at e
 ·rename_i b i off v
  split at e
  ·rename_i z rs hb
   split at e
   ·rename_i k hk
    replace e:=XJ e;obtain⟨e2,e⟩:=e
    cases e
    simp only[QH]at e2
    obtain⟨⟨⟨⟨a1,a2⟩,a3⟩,a4⟩,a5⟩:=e2
    exact⟨h.1,Ql.storeA ho hd hx hb h.2.1 hy (V.isV_or a1) (ok.sz hk) (Yu a2) a3 a4 a5 h.2.2⟩
   cases e
  cases e
 cases e
def R.say {σ:St}{t:Nat}{v:V}(h:∃u,look σ.fr t=some u/\u=v){a:Act}{w:World}(hR:R C σ a w):R C (σ.put t v) a w:=by
 obtain⟨u,hu,rfl⟩:=h
 obtain⟨φ,D⟩:=hR
 obtain⟨x,hx,j⟩:=D.frame t _ hu
 exact⟨φ,D.say hx j⟩
def RR.sayOb (h:RR C φ σ a w){b:Nat}{ob ob':Ob}(D:look σ.hp b=some ob)(hs:∀B,φ b=some B->Jv φ (Xf C φ w) w B ob->Jv φ (Xf C φ w) w B ob')(he:ob=ob'\/¬ob.Nil):RR C φ (σ.set b ob') a w:=by
 rcases he with rfl | hne
 ·refine⟨h.os,h.tape,h.output,h.size,h.kept,h.inj,λo B hB=>?_,h.lt,h.new,h.stay.set D,h.tmps,h.defers,h.frame,λo ob'' j=>?_⟩
  ·by_cases e:o=b
   ·subst e;exact⟨_,σ.look_set_same _ _⟩
   rw[σ.look_set_other _ (Ne.symm e)];exact h.dom o B hB
  by_cases e:o=b
  ·subst e;rw[σ.look_set_same]at j;cases j;exact h.heap _ _ D
  rw[σ.look_set_other _ (Ne.symm e)]at j;exact h.heap _ _ j
 exact h.say' D hs hne
def R.sayO {σ:St}{b:Nat}{ob:Ob}(h:∃u,look σ.hp b=some u/\u=ob){a:Act}{w:World}(j:R C σ a w):R C (σ.set b ob) a w:=by
 obtain⟨u,hu,rfl⟩:=h
 obtain⟨φ,D⟩:=j
 exact⟨φ,D.sayOb hu (λ_ _ h=>h) (.inl rfl)⟩
def R.denil {σ:St}{t:Nat}{v:V}{ms:L_ (O_ Nat)}(h:look σ.fr t=some v){a:Act}{w:World}(hR:R C σ a w):R C (σ.put t (v.denil ms)) a w:=by
 obtain⟨φ,D⟩:=hR
 obtain⟨x,hx,j⟩:=D.frame t _ h
 exact⟨φ,D.say hx j.denil⟩
def R.denilO {σ:St}{b:Nat}{cs:L_ V}{ms:L_ (O_ Nat)}(h:look σ.hp b=some (.var cs)){a:Act}{w:World}(hR:R C σ a w):R C (σ.set b (.var (Dt ms cs))) a w:=by
 obtain⟨φ,hr⟩:=hR
 refine⟨φ,hr.sayOb h (λB hB D=>?_) (.inr λe=>e.elim)⟩
 obtain⟨xs,E,h1,h2,h0,h3⟩:=D
 refine⟨xs,E,h1,by rw[Qat];exact h2,h0,λj x v hx hv=>?_⟩
 obtain⟨m,v',hv',rfl⟩:=SC _ _ j v hv
 exact(h3 j x v' hx hv').den1
section
variable {hp:L_ (Nat×Ob)}{g:Bool}{bad:L_ Nat}{m:Nat->Nat->Prop}{bk:Nat->O_ Nat}
def Qcd (D:∀a b,bk a=some b->m a b):∀(v:V) {u:V},trC bk v=some u->Vw hp g false bad m v u
 | .own a n,u,h=>by rw[trC]at h;split at h<;>first | (rename_i b j;cases h;exact .own _ _ _ (D _ _ j)) | cases h
 | .loc a i d,u,h=>by rw[trC]at h;split at h<;>first | (rename_i b j;cases h;exact .loc _ _ _ _ (D _ _ j)) | cases h
 | .map a,u,h=>by rw[trC]at h;split at h<;>first | (rename_i b j;cases h;exact .map _ _ (D _ _ j)) | cases h
 | .ifc t x,u,h=>by
  rw[trC]at h
  split at h
  ·rename_i y hy;cases h;exact .ifc _ _ _ (Qcd D x hy)
  cases h
 | .b _,u,h | .i _ _,u,h | .s _,u,h | .sl _ _,u,h | .sln _ _ _,u,h | .e0,u,h | .ro _,u,h | .agg _,u,h | .tup _,u,h | .clo _ _ _,u,h | .lit _,u,h | .J,u,h=>by
  have h:=XJ (show(bif V.datA _ then some _ else none)=some u from h)
  obtain⟨h1,h2⟩:=h
  cases h2
  exact .dat _ h1 (λe=>by cases e)
def PG (hm:∀a b,bk a=some b->m a b):∀{vs us:L_ V},trL bk vs=some us->vs.length=us.length/\∀(j:Nat) c u,vs[j]? = some c->us[j]? = some u->Vw hp g false bad m c u:=by
 intro vs
 induction vs with
 | nil=>intro us h;cases h;simp
 | cons v vs ih=>
  intro us h
  rw[trL]at h
  split at h
  ·rename_i u hu
   split at h
   ·rename_i us' hus
    cases h
    obtain⟨a,b⟩:=ih hus
    refine⟨by simp[a],λj c w D hw=>?_⟩
    cases j with
    | zero=>simp at D hw;subst D;subst hw;exact Qcd hm _ hu
    | succ j=>simp at D hw;exact b j c w D hw
   cases h
  cases h
def Nm (hm:∀a b,bk a=some b->m a b){v u:V}(h:trV bk v=some u):Vw hp g false bad m v u:=by
 unfold trV at h
 split at h
 ·rename_i cs
  cases D:(V.agg cs).datA with
  | true=>rw[D]at h;cases h;exact .dat _ D (λe=>by cases e)
  | false=>
   rw[D]at h;dsimp only[cond_false]at h
   split at h
   ·rename_i us j;cases h;obtain⟨a,b⟩:=PG hm j;exact .agg _ _ a b
   cases h
 ·rename_i cs
  cases D:(V.tup cs).datA with
  | true=>rw[D]at h;cases h;exact .dat _ D (λe=>by cases e)
  | false=>
   rw[D]at h;dsimp only[cond_false]at h
   split at h
   ·rename_i us j;cases h;obtain⟨a,b⟩:=PG hm j;exact .tup _ _ a b
   cases h
 ·split at h
  ·rename_i us j
   split at h
   ·rename_i ds hds;cases h;obtain⟨a,b⟩:=PG hm j;obtain⟨a',b'⟩:=PG hm hds;exact .clo _ _ _ _ _ a a' b b'
   cases h
  cases h
 exact Qcd hm _ h
def Qgm (hm:∀a b,bk a=some b->m a b):∀{vs us:L_ V},QjX bk vs=some us->vs.length=us.length/\∀(j:Nat) c u,vs[j]? = some c->us[j]? = some u->Vw hp g false bad m c u:=by
 intro vs
 induction vs with
 | nil=>intro us h;cases h;simp
 | cons v vs ih=>
  intro us h
  rw[QjX]at h
  split at h
  ·rename_i u hu
   split at h
   ·rename_i us' hus
    cases h
    obtain⟨a,b⟩:=ih hus
    refine⟨by simp[a],λj c w D hw=>?_⟩
    cases j with
    | zero=>simp at D hw;subst D;subst hw;exact Nm hm hu
    | succ j=>simp at D hw;exact b j c w D hw
   cases h
  cases h
def QmD (D:∀a b,bk a=some b->m a b){ob ob':Ob}(h:trO bk ob=some ob'):ZH hp g false bad m ob ob':=by
 unfold trO at h
 split at h
 ·split at h
  ·rename_i us j;cases h;obtain⟨a,b⟩:=Qgm D j;exact .var _ _ a b
  cases h
 ·split at h
  ·rename_i us j;cases h;obtain⟨a,b⟩:=Qgm D j;exact .lp _ _ _ _ _ a b
  cases h
 ·cases h;exact .arr _ _ (λe=>by cases e)
 ·cases h;exact .map _ (λe=>by cases e)
 ·cases h;exact .grp _ _ _ rfl
 ·cases h;exact .tbl _ _ _ rfl
 cases h
def Ft (hm:∀a b,bk a=some b->m a b):∀{ms:L_ Ev} {vs us:L_ V},NB bk ms vs=some us->Vws hp g false bad m vs us:=by
 intro ms
 induction ms with
 | nil=>intro vs us h;cases vs with
  | nil=>cases h;exact .nil
  | cons=>cases h
 | cons md ms ih=>
  intro vs us h
  cases vs with
  | nil=>cases h
  | cons v vs=>
   rw[NB]at h
   split at h
   ·rename_i u D
    split at h
    ·rename_i us' hus
     cases h
     refine .cons ?_ (ih hus)
     unfold Qpd at D
     split at D
     ·cases D;exact .nil _
     ·exact Nm hm D
     ·rename_i n cs
      split at D
      ·rename_i us2 hus2
       split at D
       ·rename_i hj
        cases D
        obtain⟨a,b⟩:=PG hm hus2
        refine .agg _ _ (by rw[<-a];simp) λj c w hc hw=>?_
        by_cases e:j=n
        ·subst e;rw[hj]at hw;cases hw;exact .forget _
        exact b j c w (by rw[List.getElem?_set,if_neg (Ne.symm e)];exact hc) hw
       cases D
      cases D
     cases D
    cases h
   cases h
def WE (hm:∀a b,bk a=some b->m a b){src:L_ (Nat×Ob)}:∀{M:L_ (Nat×Nat)} {l:L_ (Nat×Ob)},Fy bk (look src) M=some l->Ld hp g false bad m src M l:=by
 intro M
 induction M with
 | nil=>intro l h;cases h;exact .nil
 | cons p M ih=>
  intro l h
  obtain⟨d,s⟩:=p
  rw[Fy]at h
  split at h
  ·rename_i ob D
   split at h
   ·rename_i ob' j
    split at h
    ·rename_i l' hl;cases h;exact .cons D (QmD hm j) (ih hl)
    cases h
   cases h
  cases h
def Ac : ∀{M:L_ (Nat×Nat)} {a b:Nat},DO M a=some b->(b,a)∈M:=by
 intro M
 induction M with
 | nil=>intro a b h;cases h
 | cons p M ih=>
  intro a b h
  obtain⟨b',D⟩:=p
  rw[DO]at h
  cases j:Nat.beq D a with
  | true=>rw[j]at h;cases h;rw[Yu j];exact XQ
  | false=>rw[j]at h;exact Yf _ (ih h)
end
def QlD {o:Oper}{σ:St}{φ φ':Prop}{c:Call}{en:Ent}{f:Nat}{vs:L_ V}(ok:De P T)(ho:o.op=.call c)(e:QnM P T σ φ c en=some (f,vs,φ'))(D:φ'):φ/\YZ P C o σ f vs:=by
 obtain⟨ce,ags,ts⟩:=c
 unfold QnM at e
 split at e
 ·split at e
  ·rename_i f' j
   dsimp only at j;subst j
   replace e:=XJ e;obtain⟨e1,e⟩:=e
   split at e
   ·rename_i vs' hv;cases e;exact⟨D,YZ.fn ho (ok.en e1) (Um (λ_ _ h=>h) hv)⟩
   cases e
  cases e
 ·split at e
  ·rename_i x j
   dsimp only at j;subst j
   split at e
   ·rename_i f' fs cs hx
    replace e:=XJ e;obtain⟨e1,e⟩:=e
    split at e
    ·rename_i vs' hv;cases e;exact⟨D,YZ.clo ho hx (ok.en e1) (Um (λ_ _ h=>h) hv)⟩
    cases e
   cases e
  cases e
 ·split at e
  ·rename_i x name j
   dsimp only at j;subst j
   split at e
   ·rename_i t u hx
    replace e:=XJ e;obtain⟨e1,e⟩:=e
    split at e
    ·rename_i vs' hv;cases e;exact⟨D.1,YZ.meth (r:=u) ho hx D.2 (ok.en e1) (Um (λ_ _ h=>h) hv)⟩
    cases e
   cases e
  cases e
 split at e
 ·rename_i x name j
  dsimp only at j;subst j
  split at e
  ·rename_i t b off hx
   split at e
   ·rename_i cs hb
    split at e
    ·rename_i r hr0
     replace e:=XJ e;obtain⟨e1,e⟩:=e
     split at e
     ·rename_i vs' hv;cases e;exact⟨D.1,YZ.methV ho hx D.2.1 D.2.2.1 D.2.2.2 hb hr0 (ok.en e1) (Um (λ_ _ h=>h) hv)⟩
     cases e
    cases e
   cases e
  cases e
 cases e
def QmE {o:Oper}{σ σ':St}{φ φ':Prop}{d f:Nat}{vs:L_ V}{M N:L_ (Nat×Nat)}{dead:L_ Nat}{ms:L_ Ev}{outs:L_ (Nat×Ob)}{r:V}(hE:YZ P C o σ f vs)(hd:o.dst=some d)(hn:Nat.ble (d+1) C.n=true)(hpg:C.pg P)
  (e:cmV P σ φ d f vs M N dead ms outs r=some (σ',φ')) (hφ:φ'):φ/\Ql P C o σ σ':=by
 unfold cmV at e
 replace e:=XJ e;obtain⟨e1,e⟩:=e
 simp only[QH]at e1
 obtain⟨⟨D,h2⟩,h3⟩:=e1
 have h2:=KT.1 h2
 have h3:=KT.1 h3
 have j:Ck M=true/\Ck N=true:=by
  simp only[Du,QH]at D
  exact⟨D.1.1.1,D.1.1.2⟩
 have mM:∀a b,DO M a=some b->look M b=some a:=λa b h=>JB j.1 (Ac h) h2
 have mN:∀a b,DO N a=some b->look N b=some a:=λa b h=>JB j.2 (Ac h) h3
 split at e
 ·rename_i us hus
  split at e
  ·rename_i hsC hC
   split at e
   ·rename_i hsN hN
    split at e
    ·rename_i r' hr
     cases e
     exact⟨hφ.1,Ql.callM (g:=false) hE hd hn hpg D h2 (Ft mM hus) (WE mM hC) hφ.2 (WE mN hN) (Nm mN hr)⟩
    cases e
   cases e
  cases e
 cases e
def QnQ {l:L_ (Nat×V)}:∀{j:L_ Nat} {r:L_ (Nat×V)},GD l j=some r->FR l r:=by
 intro j
 induction j with
 | nil=>intro r h;cases h;trivial
 | cons t j ih=>
  intro r h
  rw[GD]at h
  split at h
  ·rename_i v hv
   split at h
   ·rename_i r' D;cases h;exact⟨hv,ih D⟩
   cases h
  cases h
def QnR {l:L_ (Nat×Ob)}:∀{j:L_ Nat} {r:L_ (Nat×Ob)},GD l j=some r->EL l r:=by
 intro j
 induction j with
 | nil=>intro r h;cases h;trivial
 | cons t j ih=>
  intro r h
  rw[GD]at h
  split at h
  ·rename_i v hv
   split at h
   ·rename_i r' D;cases h;exact⟨hv,ih D⟩
   cases h
  cases h
def RR.thawN {β:Nat}(hβ:β<=C.w0.heap.size)(hr:RR C φ σ a w){b n z:Nat}{rs us:L_ (L_ V)}(hp:Nat.ble 615 b=false)(hb:look σ.hp b=some (.arr z rs)){x:Value}(hrep:QQ φ (Xf C φ w) w x (.own b n))(hle:n<=rs.length)(hu:rs.take n=us):
  XA (Xf C (EC φ b) w) w x (.sln β z us):=by
 subst hu
 rcases hrep.own_inv with⟨rfl,rfl⟩|⟨B,hB,D,rfl⟩
 ·simp only[Qan];exact .sln0 _ _ _ _
 obtain⟨rfl,hrl,hok,cs,E,h1,h2,h3⟩:=hr.block hB hb
 have hnew:C.w0.heap.size<=B.b:=by
  have hb':b<615:=by
   rcases Wv b 615 with h | h
   ·exact h
   rw[Vl h]at hp;cases hp
  exact hr.new b B _ hB B.self hb'
 have hIb:Xf C (EC φ b) w B.b:=by
  refine⟨(hr.lt b B _ hB B.self).1,λhlt=>by omega,λo B' hB' e=>?_⟩
  obtain⟨h4,h5⟩:=JS hB'
  exact h4 (hr.inj o b B' B _ h5 hB e B.self)
 have hle2:n*B.z<=B.cap*B.z:=JL _ D
 refine .sln β B.b B.off n B.cap B.z _ cs E (Jn hβ hnew) hIb (by simp;omega) D (λr hr'=>hok r (UI hr')) h1 (by omega) (λi r hi j v hj=>?_)
 have hi':rs[i]? = some r:=by
  rw[JQ]at hi
  by_cases hin:i<n
  ·rwa[if_pos hin]at hi
  rw[if_neg hin]at hi;simp at hi
 obtain⟨y,hy,hd⟩:=h3 i r hi' j v hj
 have:cs.getD (B.off+(i*B.z+j)) undef=y:=by simp[Sp,hy]
 rw[this]
 exact hd.mono λk hk=>⟨hk.of_del,rfl⟩
def RR.thaw (hr:RR C φ σ a w){b n z:Nat}{rs us:L_ (L_ V)}(hp:Nat.ble 615 b=false)(D:look σ.hp b=some (.arr z rs)){x:Value}(h:QQ φ (Xf C φ w) w x (.own b n))(j:n<=rs.length)(hu:rs.take n=us):
  QQ (EC φ b) (Xf C (EC φ b) w) w x (.sl z us):=.dat (hr.thawN (LH _) hp D h j hu).lo1
def Frz (C:Xq)(s:V)(z:Nat)(us:L_ (L_ V)):Prop:=s=.sl z us\/∃β,s=.sln β z us/\β<=C.w0.heap.size
def RR.thawU {s:V}{z:Nat}{us:L_ (L_ V)}(hs:Frz C s z us)(hr:RR C φ σ a w){b n:Nat}{rs:L_ (L_ V)}(hp:Nat.ble 615 b=false)(D:look σ.hp b=some (.arr z rs)){x:Value}(h:QQ φ (Xf C φ w) w x (.own b n))(j:n<=rs.length)(hu:rs.take n=us):
  QQ (EC φ b) (Xf C (EC φ b) w) w x s:=by
 rcases hs with rfl | ⟨β,rfl,hβ⟩
 ·exact hr.thaw hp D h j hu
 exact .dat (hr.thawN hβ hp D h j hu)
section
variable {b z:Nat}{rs us:L_ (L_ V)}{σ0:St}{s:V}
def RR.frzC (hs:Frz C s z us)(hr:RR C φ σ a w)(hp:Nat.ble 615 b=false)(hb:look σ.hp b=some (.arr z rs)){x:Value}{v:V}(h:QQ φ (Xf C φ w) w x v)(D:QjY b rs us v)(j:v.freeC b=true\/∃k,v=.own b k):
  QQ (EC φ b) (Xf C (EC φ b) w) w x (v.frzC b s):=by
 rcases j with j | ⟨k,rfl⟩
 ·have:v.frzC b s=v:=by
   unfold V.frzC
   split
   ·rename_i o k
    have:Nat.beq o b=false:=by simpa[V.freeC,V.freeN] using j
    rw[this];rfl
   rfl
  rw[this]
  exact QQ.freeC (λo B ho hB=>by rw[DN ho];exact hB) (λk hk=>⟨hk.of_del,rfl⟩) h j
 have e:Nat.beq b b=true:=Nat.beq_refl b
 simp only[QjY,e,Qx]at D
 simp only[V.frzC,e,Qx]
 exact RR.thawU hs hr hp hb h D.1 D.2
def QiM {D:L_ V}(h:QaB b rs us D):∀(j:Nat) v,D[j]? = some v->QjY b rs us v:=by
 induction D with
 | nil=>intro j v hj;simp at hj
 | cons c D ih=>
  intro j v hj
  have h2:QaB b rs us D:=by
   unfold QaB at h
   split at h
   ·rename_i e;cases e
   ·rename_i e;cases e;exact h.2
   rename_i e;cases e;exact h
  cases j with
  | zero=>
   simp at hj;subst hj
   cases c with
   | own o k=>exact h.1
   | _=>trivial
  | succ j=>exact ih h2 j v (by simpa using hj)
end
section
variable {b z:Nat}{rs us:L_ (L_ V)}{σ0:St}{s:V}
def Qj0 {v:V}(h:(v.freeC b||v.isOwn b)=true):v.freeC b=true\/∃k,v=.own b k:=by
 rw[Kh]at h
 rcases h with h | h
 ·exact .inl h
 unfold V.isOwn at h
 split at h
 ·rename_i o k;rw[Yu h];exact .inr ⟨k,rfl⟩
 cases h
def RR.frzV (hz:Frz C s z us)(hr:RR C φ σ0 a w)(hp:Nat.ble 615 b=false)(hb:look σ0.hp b=some (.arr z rs)){x:Value}{v:V}(h:QQ φ (Xf C φ w) w x v)(hq:QnO b rs us v)(hf:v.frzB b=true):
  QQ (EC φ b) (Xf C (EC φ b) w) w x (v.frz b s):=by
 unfold V.frz
 unfold QnO at hq
 unfold V.frzB at hf
 split at hq
 ·rename_i cs
  obtain⟨xs,rfl,hs,hc⟩:=h.agg_inv
  refine .agg xs _ (by simpa using hs) λj y u hy hu=>?_
  rw[Ya]at hu
  obtain⟨c,D,rfl⟩:=XT.1 hu
  dsimp only at hf
  rw[XD]at hf
  exact RR.frzC hz hr hp hb (hc j y c hy D) (QiM hq j c D) (Qj0 (hf c (XF D)))
 rename_i hne
 have hf':(v.freeC b||v.isOwn b)=true:=by
  split at hf
  ·exact absurd rfl (hne _)
  exact hf
 exact RR.frzC hz hr hp hb h hq (Qj0 hf')
def QlE (hs:Frz C s z us)(hr:RR C φ σ0 a w)(hp:Nat.ble 615 b=false)(hb:look σ0.hp b=some (.arr z rs)):∀{D:L_ Nat} {σ σ':St} {ψ ψ':Prop},Qcb b s rs us σ0 D σ ψ=some (σ',ψ')->ψ'->ψ/\(RR C (EC φ b) σ a w->RR C (EC φ b) σ' a w):=by
 intro D
 induction D with
 | nil=>intro σ σ' ψ ψ' h h';cases h;exact⟨h',id⟩
 | cons t D ih=>
  intro σ σ' ψ ψ' h h'
  rw[Qcb]at h
  split at h
  ·rename_i v hv
   replace h:=XJ h;obtain⟨h0,h⟩:=h
   obtain⟨⟨h1,h2⟩,h3⟩:=ih h h'
   refine⟨h1,λk=>h3 ?_⟩
   obtain⟨x,hx,j⟩:=hr.frame t v hv
   exact k.say hx (RR.frzV hs hr hp hb j h2 h0)
  cases h
def QlF (hs:Frz C s z us)(hr:RR C φ σ0 a w)(hp:Nat.ble 615 b=false)(hb:look σ0.hp b=some (.arr z rs)):∀{os:L_ Nat} {σ σ':St} {ψ ψ':Prop},QhN b s rs us σ0 os σ ψ=some (σ',ψ')->ψ'->ψ/\(RR C (EC φ b) σ a w->(∀p cs ob,look σ0.hp p=some (.var cs)->look σ.hp p=some ob->¬ob.Nil)->RR C (EC φ b) σ' a w):=by
 intro os
 induction os with
 | nil=>intro σ σ' ψ ψ' h h';cases h;exact⟨h',λk _=>k⟩
 | cons p ps ih=>
  intro σ σ' ψ ψ' h h'
  rw[QhN]at h
  split at h
  ·rename_i cs hcs
   replace h:=XJ h;obtain⟨h0,h⟩:=h
   simp only[QH,GW]at h0
   obtain⟨⟨g1,g2⟩,g3⟩:=h0
   obtain⟨⟨h1,h2⟩,h3⟩:=ih h h'
   refine⟨h1,λk hv=>h3 ?_ ?_⟩
   ·have hne:p≠b:=λe=>by subst e;rw[Nat.beq_refl]at g1;cases g1
    obtain⟨ob,hob⟩:=Option.isSome_iff_exists.1 g3
    refine k.sayOb hob (λB hB _=>?_) (.inr (hv p cs ob hcs hob))
    obtain⟨_,hB'⟩:=JS hB
    rcases hr.heap p _ hcs with⟨B',D,hrep⟩|⟨hn,_⟩
    ·rw[hB']at D;cases D
     obtain⟨xs,E,e1,e2,e0,e3⟩:=hrep
     refine⟨xs,E,e1,by simpa using e2,e0,λj x v hx hv'=>?_⟩
     rw[Ya]at hv'
     obtain⟨c,hcj,rfl⟩:=XT.1 hv'
     rw[XD]at g2
     exact RR.frzC hs hr hp hb (e3 j x c hx hcj) (QiM h2 j c hcj) (Qj0 (g2 c (XF hcj)))
    rw[hn]at hB';cases hB'
   intro p' cs' ob' e1 e2 e3
   by_cases e:p=p'
   ·subst e;rw[St.look_set_same]at e2;cases e2;exact e3.elim
   rw[St.look_set_other _ _ e]at e2;exact hv p' cs' ob' e1 e2 e3
  cases h
end
def R.frz {b z:Nat}{rs us:L_ (L_ V)}{s:V}(hs:Frz C s z us){σ σ1 σ2:St}{j os:L_ Nat}{φ1 φ2:Prop}(hp:Nat.ble 615 b=false)(hb:look σ.hp b=some (.arr z rs))(h1:Qcb b s rs us σ j (σ.kill b) True=some (σ1,φ1))(h2:QhN b s rs us σ os σ1 φ1=some (σ2,φ2))(hφ:φ2)
  {a:Act} {w:World} (hR:R C σ a w):R C σ2 a w:=by
 obtain⟨φ,D⟩:=hR
 obtain⟨e1,e2⟩:=QlF hs D hp hb h2 hφ
 obtain⟨_,e3⟩:=QlE hs D hp hb h1 e1
 refine⟨_,e2 (e3 (D.kill b)) λp cs ob g1 g2 g3=>?_⟩
 have key:∀{j:L_ Nat} {σ' σ'':St} {ψ ψ':Prop},Qcb b s rs us σ j σ' ψ=some (σ'',ψ')->σ''.hp=σ'.hp:=by
  intro j
  induction j with
  | nil=>intro σ' σ'' ψ ψ' h;cases h;rfl
  | cons t j ih=>
   intro σ' σ'' ψ ψ' h
   rw[Qcb]at h
   split at h
   ·replace h:=XJ h;obtain⟨_,h⟩:=h
    rw[ih h];rfl
   cases h
 rw[key h1]at g2
 obtain⟨_,ob',h5,h6⟩:=KP _ _ _ g2
 rw[g1]at h5;cases h5
 subst h6;exact g3.elim
def R.adoptO {σ:St}{p i b z:Nat}{cs:L_ V}(D:Nat.beq p b=false)(hp:look σ.hp p=some (.var cs))(hi:cs[i]? = some (.lit (.slice none 0 0)))(hlt:b<617)(hb:look σ.hp b=none){a:Act}{w:World}(hR:R C σ a w):
  R C ((σ.set b (.arr z [])).set p (.var (cs.set i (.own b 0)))) a w:=by
 obtain⟨φ,hr⟩:=hR
 have hne:b≠p:=λe=>by subst e;rw[Nat.beq_refl]at D;cases D
 have h1:=hr.setNil (z:=z) hlt hb
 have hp':look (σ.set b (.arr z [])).hp p=some (.var cs):=by rw[St.look_set_other _ _ hne];exact hp
 refine⟨φ,h1.sayOb hp' (λB hB hrep=>?_) (.inr λe=>e.elim)⟩
 obtain⟨xs,E,e1,e2,e0,e3⟩:=hrep
 refine⟨xs,E,e1,by simpa using e2,e0,λj x v hx h=>?_⟩
 rw[List.getElem?_set]at h
 split at h
 ·rename_i hij;subst hij
  split at h
  ·cases h
   have:=e3 i x _ hx hi
   rw[this.lit_inv];exact .own0 b
  cases h
 exact e3 j x v hx h
def QlG {d:Aw}{pt:Pt}{ks:L_ Fr}{σ:St}{φ:Prop}{c:Cfg}(ok:De P T)(hN:Jo P C n)(e:QnP P C T n d pt ks σ φ=some c):QlB P C Q pt ks σ φ c:=by
 have hn:=hN.n
 unfold QnP at e
 split at e
 ·split at e
  ·rename_i hw
   split at e
   ·rename_i hs;cases e;exact λh=>let ⟨a,b⟩:=Qcc ok hN hs h;⟨a,λk=>AL.want hw b k⟩
   cases e
  cases e
 ·split at e
  ·rename_i hw
   split at e
   ·rename_i hs;cases e;exact λh=>let ⟨a,b⟩:=Qcc ok hN hs h;⟨a,λk=>AL.want hw b k⟩
   cases e
  cases e
 ·split at e
  ·rename_i hw
   split at e
   ·rename_i hd
    split at e
    ·rename_i ho
     split at e
     ·rename_i hp
      split at e
      ·rename_i hv
       split at e
       ·rename_i hs;cases e;exact λh=>let ⟨a,b⟩:=QjZ ok ho hd hp hv hs h;⟨a,λk=>AL.want hw b k⟩
       cases e
      cases e
     cases e
    cases e
   cases e
  cases e
 ·split at e
  ·rename_i hw
   split at e
   ·rename_i hd
    split at e
    ·rename_i cl ho
     obtain⟨ce,ags,ts⟩:=cl
     split at e
     ·rename_i hce
      dsimp only at hce e;subst hce
      split at e
      ·rename_i x y hxy
       split at e
       ·rename_i Tx Ty hT
        split at e
        ·rename_i p hp
         split at e
         ·rename_i v hv
          split at e
          ·rename_i hs
           have ea:ags=#[x,y]:=by rw[<-Ve (xs:=ags),hxy]
           have et:ts=#[Tx,Ty]:=by rw[<-Ve (xs:=ts),hT]
           subst ea;subst et
           cases e;exact λh=>let ⟨a,b⟩:=QlC ok hN ho hd hp hv hs h;⟨a,λk=>AL.want hw b k⟩
          cases e
         cases e
        cases e
       cases e
      cases e
     cases e
    cases e
   cases e
  cases e
 ·split at e
  ·rename_i hw
   cases e;exact λh=>⟨h.1,λk=>AL.want hw h.2 k⟩
  cases e
 ·split at e
  ·rename_i hw
   split at e
   ·rename_i d hd
    replace e:=XJ e;obtain⟨D,e⟩:=e
    rw[<-hn]at D
    split at e
    ·rename_i cl ho
     split at e
     ·rename_i f vs φ1 he
      split at e
      ·rename_i hs
       cases e
       refine λh=>?_
       have h0:φ1:=by
        have hs':=hs
        unfold cmV at hs'
        replace hs':=(XJ hs').2
        repeat (split at hs'<;>first | (cases hs';exact h.1) | skip)
        all_goals cases hs'
       obtain⟨a,b⟩:=QlD (C:=C) ok ho he h0
       obtain⟨_,b'⟩:=QmE b hd D hN.g hs h
       exact⟨a,λk=>AL.want hw b' k⟩
      cases e
     cases e
    cases e
   cases e
  cases e
 ·split at e
  ·rename_i hc
   split at e
   ·cases e;exact λh=>⟨h.1,λk=>XY.condT hc h.2 k⟩
   cases e;exact λh=>⟨h.1,λk=>XY.condF hc h.2 k⟩
  cases e
 ·split at e
  ·rename_i u hu;cases e;exact λh=>⟨h.1,AK.weaken λa w=>R.say ⟨u,hu,h.2⟩⟩
  cases e
 ·split at e
  ·rename_i u hu;cases e;exact λh=>⟨h.1,AK.weaken λa w=>R.sayO ⟨u,hu,h.2⟩⟩
  cases e
 ·cases e;exact λh=>⟨h.1,AK.weaken λa w j=>j.to h.2.1 h.2.2.1 h.2.2.2⟩
 ·split at e
  ·rename_i b k ht
   split at e
   ·rename_i z rs hb
    replace e:=XJ e;obtain⟨D,e⟩:=e
    rw[GW]at D
    cases e;exact λh=>⟨h.1,AK.weaken λa w j=>j.freeze D ht hb h.2.1 h.2.2⟩
   cases e
  cases e
 ·split at e
  ·rename_i ht
   split at e
   ·rename_i hb
    cases hbl:Nat.ble 617 _ with
    | true=>rw[hbl]at e;cases e
    | false=>rw[hbl]at e;cases e;exact λh=>⟨h,AK.weaken λa w j=>j.adopt (Eu (by rw[hbl];rfl)) ht hb⟩
   cases e
  cases e
 ·split at e
  ·rename_i v hv;cases e;exact λh=>⟨h,AK.weaken λa w j=>j.denil hv⟩
  cases e
 ·split at e
  ·rename_i v hv;cases e;exact λh=>⟨h,AK.weaken λa w j=>j.denilO hv⟩
  cases e
 ·replace e:=XJ e;obtain⟨D,e⟩:=e
  simp only[QH,GW,Option.isNone_iff_eq_none]at D
  cases e;exact λh=>⟨h,AK.weaken λa w j=>j.ren _ _ D.1.1 D.1.2 D.2⟩
 ·cases e;exact λh=>⟨h,AK.weaken λa w j=>j.kill _⟩
 ·split at e
  ·rename_i z rs hb
   replace e:=XJ e;obtain⟨D,e⟩:=e
   rw[GW]at D
   split at e
   ·rename_i σ1 φ1 h1
    split at e
    ·rename_i σ2 φ2 h2
     cases e;exact λh=>⟨h.1,AK.weaken λa w j=>R.frz (.inl rfl) D hb h1 h2 h.2 j⟩
    cases e
   cases e
  cases e
 ·split at e
  ·rename_i z rs hb
   replace e:=XJ e;obtain⟨D,e⟩:=e
   rw[GW]at D
   split at e
   ·rename_i σ1 φ1 h1
    split at e
    ·rename_i σ2 φ2 h2
     cases e;exact λh=>⟨h.1,AK.weaken λa w j=>R.frz (.inr ⟨_,rfl,h.2.2⟩) D hb h1 h2 h.2.1 j⟩
    cases e
   cases e
  cases e
 ·split at e
  ·rename_i cs hcs
   split at e
   ·rename_i hi
    split at e
    ·rename_i hb
     cases hpb:Nat.beq _ _ with
     | true=>rw[hpb]at e;cases e
     | false=>
      rw[hpb]at e
      cases hbl:Nat.ble 617 _ with
      | true=>rw[hbl]at e;cases e
      | false=>rw[hbl]at e;cases e;exact λh=>⟨h,AK.weaken λa w j=>R.adoptO hpb hcs hi (Eu (by rw[hbl];rfl)) hb j⟩
    cases e
   cases e
  cases e
 ·split at e
  ·rename_i hf
   split at e
   ·rename_i hp
    replace e:=XJ e;obtain⟨D,e⟩:=e
    cases e;exact λh=>⟨h,AK.weaken λa w j=>j.to (QnQ hf) (QnR hp) D⟩
   cases e
  cases e
 cases e
def QkT (ok:De P T)(hN:Jo P C n):∀(k:Nat) {pt:Pt} {ks:L_ Fr} {σ:St} {φ:Prop} {c:Cfg},plain P C T n k pt ks σ φ=some c->QlB P C Q pt ks σ φ c:=by
 have hn:=hN.n
 intro k
 induction k with
 | zero=>intro pt ks σ φ c e;cases e;exact λj=>⟨j,id⟩
 | succ k ih=>
  intro pt ks σ φ c e
  unfold plain at e
  split at e
  ·rename_i h;cases h
  ·rename_i k' ops o l _ _ _ h
   cases h
   split at e
   ·rename_i D
    split at e
    ·rename_i hs
     exact λj=>let ⟨a,b⟩:=ih e j;let ⟨a',b'⟩:=Qcc ok hN hs a;⟨a',λk=>AL.want D b' (b k)⟩
    cases e
   ·rename_i D
    split at e
    ·rename_i d hd
     replace e:=XJ e;obtain⟨e1,e⟩:=e
     rw[<-hn]at e1
     exact λj=>let ⟨a,b⟩:=ih e j;⟨a,λk=>AL.pass D hd e1 (b k)⟩
    rename_i hd
    exact λj=>let ⟨a,b⟩:=ih e j;⟨a,λk=>AL.pass0 D hd (b k)⟩
   cases e
  rename_i h _
  cases h
  split at e
  ·rename_i hc
   exact λj=>let ⟨a,b⟩:=ih e j;⟨a,λk=>QmC hc (b k)⟩
  cases e
def QnS (ok:De P T)(hN:Jo P C n):∀(D:L_ Aw) {pt:Pt} {ks:L_ Fr} {σ:St} {φ:Prop} {c:Cfg},go P C T n D pt ks σ φ=some c->QlB P C Q pt ks σ φ c:=by
 have hn:=hN.n
 intro D
 induction D with
 | nil=>intro pt ks σ φ c e;cases e;exact λj=>⟨j,id⟩
 | cons d D ih=>
  intro pt ks σ φ c e
  unfold go at e
  split at e
  ·rename_i h;cases h
  ·rename_i h
   cases h
   split at e
   ·rename_i hp
    exact λj=>let ⟨a,b⟩:=ih e j;let ⟨a',b'⟩:=QkT ok hN _ hp a;⟨a',λk=>b' (b k)⟩
   cases e
  rename_i h
  cases h
  split at e
  ·rename_i hp
   exact λj=>let ⟨a,b⟩:=ih e j;let ⟨a',b'⟩:=QlG ok hN hp a;⟨a',λk=>b' (b k)⟩
  cases e
def AK.go (ok:De P T)(hN:Jo P C n)(D:L_ Aw){pt j:Pt}{ks h:L_ Fr}{σ σ':St}{φ:Prop}(e:Vm.go P C T n D pt ks σ True=some ⟨j,h,σ',φ⟩)(hφ:φ)(k:AK P C Q j h σ'):AK P C Q pt ks σ:=
 (QnS ok hN D e hφ).2 k
end
def QI {α:Type}{l:L_ α}{f:α->L_ V}{j:Int}{x:α}(h:idx l j=some x):0<=j/\(l.map f)[j.toNat]? = some (f x):=⟨(Ys h).1,XO (Ys h).2⟩
def Yv {α:Type}{l:L_ α}{j:Int}{x:α}{n:Nat}(h:idx l j=some x)(D:l.length=n):0<=j/\j<(n:Int):=by subst D;exact⟨(Ys h).1,QpN h⟩
def Qce {a b:Bool}(h:(a&&b)=true):a=true:=(QH _ _▸h).1
def PH {a b:Bool}(h:(a&&b)=true):b=true:=(QH _ _▸h).2
def SH {a b c:Bool}(h:(a&&b&&c)=true):a=true:=Qce (Qce h)
def SI {a b c:Bool}(h:(a&&b&&c)=true):b=true:=PH (Qce h)
def ZI {a b c:Bool}(h:(a&&b&&c)=true):c=true:=PH h
def UR.none_ {σ:St}{n m:Nat}(h:n=m):UR σ n .none m:=h▸UR.no
def Qpe {α:Type}{l:L_ α}{h d:Nat}(j:h<=l.length):V.own d h=V.own d (l.take h).length:=by rw[Wm,LG j]
def Yk {α β:Type}{us:L_ α}{y:L_ β}{n:Nat}(h:decide (n+y.length<=4294967296)=true)(e:us.length=y.length):decide (n+us.length<=4294967296)=true:=by rw[e];exact h
def YC {α β:Type}{us:L_ α}{l y:L_ β}(e:us.length=y.length):l.length+us.length=(l++y).length:=by rw[e];simp
def YA {rs:L_ (L_ V)}{n:Nat}(h:rs.length=n):n<=rs.length/\rs.take n=rs:=by subst h;exact⟨JE _,FQ⟩
def FU (a b:Int):Bool:=decide (a<b)
def Rm (a b:ByteArray):Bool:=decide (a.data.toList.map UInt8.toNat<b.data.toList.map UInt8.toNat)
section
variable {P:Program}{C:Xq}{T:Ea}{Q:Exit->St->Prop}{n:Nat}{ops:Array Oper}{base:St}
def Jw.denil {o:Oper}{σ:St}{d:Nat}{v:V}{ob:O_ Ob}{ms:L_ (O_ Nat)}(h:Jw P C ops o σ (σ.addF ⟨d,v,ob⟩)):Jw P C ops o σ (σ.addF ⟨d,v.denil ms,ob⟩):=by
 intro a w hR K Q hK
 refine h a w hR K Q λD w' ⟨φ,j⟩=>hK D w' ⟨φ,?_⟩
 cases ob with
 | none=>exact RR.putDenil (σ:=σ) j
 | some ob=>exact RR.putDenil (σ:=σ.set d ob) j
def FR.app {fr:L_ (Nat×V)}:∀{l m:L_ (Nat×V)},FR fr l->FR fr m->FR fr (l++m):=by
 intro l
 induction l with
 | nil=>intro m _ h;exact h
 | cons p l D=>intro m h j;exact⟨h.1,D h.2 j⟩
def EL.app {hp:L_ (Nat×Ob)}:∀{l m:L_ (Nat×Ob)},EL hp l->EL hp m->EL hp (l++m):=by
 intro l
 induction l with
 | nil=>intro m _ h;exact h
 | cons p l D=>intro m h j;exact⟨h.1,D h.2 j⟩
def YX.walk {β:Nat}{f:FuncId}{fn:Func}{c:Code}{args:L_ V}{hs:L_ (Nat×Ob)}{j:V->L_ (Nat×Ob)->Prop}(n:Nat)(hf:P.funcs[f]? = some fn)(hb:fn.body=some c)(hn:fn.ntmps=n)
  (D:(Nat.ble args.length n&&Nat.ble n 617)=true) (h:∀C:Xq,Jo P C n->β<=C.w0.heap.size->AK P C (Zh P fn.results.toList j) (.c c) [] ⟨Mw 0 args,hs⟩):YX β P f args hs j:=by
 rw[QH]at D
 exact YX.enter hf hb hn D.1 D.2 λC h1 _ h2=>h C h1 h2
def YX.walkR {β:Nat}{f:FuncId}{fn:Func}{c:Code}{args:L_ V}{hs:L_ (Nat×Ob)}{j:V->L_ (Nat×Ob)->Prop}(n:Nat)(hf:P.funcs[f]? = some fn)(hb:fn.body=some c)(hn:fn.ntmps=n)
  (D:(Nat.ble args.length n&&Nat.ble n 617)=true) (h:∀C:Xq,Jo P C n->C.rnd=none->β<=C.w0.heap.size->AK P C (Zh P fn.results.toList j) (.c c) [] ⟨Mw 0 args,hs⟩):YX β P f args hs j:=by
 rw[QH]at D
 exact YX.enter hf hb hn D.1 D.2 h
def QP.walk {f:FuncId}{fn:Func}{c:Code}{args:L_ V}{hs:L_ (Nat×Ob)}{j:V->L_ (Nat×Ob)->Prop}(n:Nat)(hf:P.funcs[f]? = some fn)(hb:fn.body=some c)(hn:fn.ntmps=n)
  (D:(Nat.ble args.length n&&Nat.ble n 617)=true) (h:∀C:Xq,Jo P C n->AK P C (Zh P fn.results.toList j) (.c c) [] ⟨Mw 0 args,hs⟩):QP P f args hs j:=by
 rw[QH]at D
 exact QP.enter hf hb hn D.1 D.2 λC h1 _=>h C h1
def QP.walkR {f:FuncId}{fn:Func}{c:Code}{args:L_ V}{hs:L_ (Nat×Ob)}{j:V->L_ (Nat×Ob)->Prop}(n:Nat)(hf:P.funcs[f]? = some fn)(hb:fn.body=some c)(hn:fn.ntmps=n)
  (D:(Nat.ble args.length n&&Nat.ble n 617)=true) (h:∀C:Xq,Jo P C n->C.rnd=none->AK P C (Zh P fn.results.toList j) (.c c) [] ⟨Mw 0 args,hs⟩):QP P f args hs j:=by
 rw[QH]at D
 exact QP.enter hf hb hn D.1 D.2 h
def gives {r:V}{outs j:L_ (Nat×Ob)}(h:EL j outs):Gives r outs r j:=⟨rfl,λ_ _ e=>h.look _ _ e⟩
end
def Sl {α:Type}{f:α->L_ V}{l:L_ α}{n:Nat}(h:n=l.length):n<=(l.map f).length/\(l.map f).take n=l.map f:=by
 subst h;exact⟨by simp,KE (by simp)⟩
section
variable {τ ρ π:Type}
def WL (body:τ->π->O_ (τ⊕ρ)):τ->L_ π->O_ (τ⊕ρ)
 | s,[]=>some (.inl s)
 | s,p::l=>(body s p).bind λo=>Sum.elim (λh=>WL body h l) (λr=>some (.inr r)) o
open Classical in
noncomputable def CX (body:τ->π->O_ (τ⊕ρ))(s:τ):L_ π->O_ (τ⊕ρ)
 | []=>some (.inl s)
 | [p]=>WL body s [p]
 | l=>if ∀h:L_ π,h.Perm l->WL body s h=WL body s l then WL body s l else none
def Il {body:τ->π->O_ (τ⊕ρ)}{s:τ}{l:L_ π}{o:τ⊕ρ}:CX body s l=some o↔(∀j:L_ π,j.Perm l->WL body s j=WL body s l)/\WL body s l=some o:=by
 unfold CX
 split
 ·exact⟨λh=>⟨λj D=>by rw[D.eq_nil],h⟩,λh=>h.2⟩
 ·exact⟨λh=>⟨λj D=>by rw[List.perm_singleton.1 D],h⟩,λh=>h.2⟩
 split
 ·rename_i h;exact Iff.intro (λe=>⟨h,e⟩) (λe=>e.2)
 rename_i h;exact Iff.intro (λe=>(by cases e)) (λe=>absurd e.1 h)
def Zl {body:τ->π->O_ (τ⊕ρ)}:∀{l m:L_ π} {s:τ},WL body s (l++m)=(WL body s l).bind λo=>Sum.elim (λh=>WL body h m) (λr=>some (.inr r)) o:=by
 intro l
 induction l with
 | nil=>intro m s;rfl
 | cons p l j=>
  intro m s
  simp only[List.cons_append,WL]
  cases body s p with
  | none=>rfl
  | some o=>
   cases o with
   | inl h=>exact j
   | inr r=>rfl
end
def YG {π:Type}(L:L_ (Nat×π))(h:Array Nat):L_ (Nat×π):=L.filter λq=>!h.contains q.1
def QaC {π:Type}{L:L_ (Nat×π)}(D:(L.map (·.1)).Nodup){j:Array Nat}{q:Nat×π}(hq:q∈YG L j):(YG L j).Perm (q::YG L (j.push q.1)):=by
 have key:∀(l:L_ (Nat×π)),(l.map (·.1)).Nodup->∀p:Nat×π->Bool,q∈l->p q=true->(l.filter p).Perm (q::l.filter λe=>p e&&!(e.1==q.1)):=by
  intro l
  induction l with
  | nil=>intro _ p h;simp at h
  | cons y l ih=>
   intro D p hx hp
   rw[EJ,Me]at D
   rcases Yt.1 hx with rfl | hx
   ·have h1:l.filter (λe=>p e&&!(e.1==q.1))=l.filter p:=by
     apply List.filter_congr
     intro e he
     have:e.1≠q.1:=λh=>D.1 (by rw[<-h];exact List.mem_map_of_mem (f:=λq:Nat×π=>q.1) he)
     simp[this]
    simp[Mb,hp,h1]
   have hne:y.1≠q.1:=λh=>D.1 (by rw[h];exact List.mem_map_of_mem (f:=λq:Nat×π=>q.1) hx)
   have h2:=ih D.2 p hx hp
   by_cases hy:p y=true
   ·have e1:(y::l).filter p=y::l.filter p:=by simp[Mb,hy]
    have e2:((y::l).filter λe=>p e&&!(e.1==q.1))=y::l.filter λe=>p e&&!(e.1==q.1):=by simp[Mb,hy,hne]
    rw[e1,e2]
    exact(List.Perm.cons y h2).trans (List.Perm.swap _ _ _)
   have e1:(y::l).filter p=l.filter p:=by simp[Mb,hy]
   have e2:((y::l).filter λe=>p e&&!(e.1==q.1))=l.filter λe=>p e&&!(e.1==q.1):=by simp[Mb,hy]
   rw[e1,e2];exact h2
 have e2:YG L (j.push q.1)=L.filter λe=>(!j.contains e.1)&&!(e.1==q.1):=by
  unfold YG
  apply List.filter_congr
  intro e _
  rw[Vf]
  simp[Array.mem_push]
 rw[e2]
 unfold YG at hq ⊢
 rw[Mc]at hq
 exact key L D _ hq.1 hq.2
def QlH {α:Type}:∀{l m:L_ α},l.Nodup->(∀x∈l,x∈m)->m.length<=l.length->l.Perm m:=by
 classical
 intro l
 induction l with
 | nil=>intro m _ _ h;have:m=[]:=FO.1 (Nat.le_zero.1 h);subst this;exact .nil
 | cons x l ih=>
  intro m j hs hl
  rw[Me]at j
  have hx:=hs x XQ
  have hp:=List.perm_cons_erase hx
  refine(List.Perm.cons x (ih j.2 (λy hy=>?_) ?_)).trans hp.symm
  ·have D:y≠x:=λe=>j.1 (e▸hy)
   exact(List.mem_erase_of_ne D).2 (hs y (Yf _ hy))
  have:=hp.length_eq
  simp at this hl
  omega
section
variable {P:Program}{C:Xq}{Q:Exit->St->Prop}{σ σ':St}{ks:L_ Fr}{o:Oper}
def AK.weakenE {ι:Type _}{f:ι->St}{pt:Pt}(h:∀a w,R C σ a w->∃i,R C (f i) a w)(k:∀i,AK P C Q pt ks (f i)):AK P C Q pt ks σ:=by
 cases pt with
 | c c=>exact λa w j=>let ⟨i,hi⟩:=h a w j;k i a w hi
 | o ops l=>exact λa w j=>let ⟨i,hi⟩:=h a w j;k i a w hi
 | x e=>exact λa w j=>let ⟨i,hi⟩:=h a w j;k i a w hi
def Fz {κ α:Type}(e:κ->V)(f:α->V)(L:L_ (Nat×(κ×α))):L_ (Nat×(V×V)):=L.map λq=>(q.1,(e q.2.1,f q.2.2))
def AK.openMap {κ α:Type}[DecidableEq κ]{K:TypeId}{e:κ->V}{val:κ->Value}{f:α->V}{lt:L_ (κ×α)}{b:Nat}{pt:Pt}(hk:UJ P K e val)(hb:look σ.hp b=some (.map (QT e f lt)))
  (h:∀bm j (L:L_ (Nat×(κ×α))),(L.map (·.1)).Nodup->(L.map Prod.snd).Perm lt->AK P C Q pt ks (σ.set b (.mapX bm j (Fz e f L) (QT e f lt)))):AK P C Q pt ks σ:=by
 have key:∀a w,R C σ a w->∃i:{ i:Nat×Nat×L_ (Nat×(κ×α)) // (i.2.2.map (·.1)).Nodup/\(i.2.2.map Prod.snd).Perm lt },R C (σ.set b (.mapX i.1.1 i.1.2.1 (Fz e f i.1.2.2) (QT e f lt))) a w:=by
  intro a w ⟨φ,hr⟩
  rcases hr.heap b _ hb with⟨B,hB,hrep⟩|⟨_,h2⟩
  ·obtain⟨es,j,h1,h2,h3,h4,h5,h6⟩:=hrep
   have hL:∀l:L_ MapEntry,(∀x∈l,x∈es.toList)->∃L:L_ (MapEntry×(κ×α)),L.map Prod.fst=l/\∀q∈L,q.2∈lt/\XA (Xf C φ w) w q.1.key (e q.2.1)/\XA (Xf C φ w) w q.1.val (f q.2.2):=by
    intro l
    induction l with
    | nil=>intro _;exact⟨[],rfl,λq hq=>by simp at hq⟩
    | cons x l ih=>
     intro hx
     obtain⟨L,e1,e2⟩:=ih λy hy=>hx y (Yf _ hy)
     obtain⟨p,hp,a1,a2⟩:=h5 x (hx x XQ)
     obtain⟨q,hq,rfl⟩:=YN.1 hp
     exact⟨(x,q)::L,by rw[EJ,e1],λy hy=>by
      rcases Yt.1 hy with rfl | hy
      ·exact⟨hq,a1,a2⟩
      exact e2 y hy⟩
   obtain⟨L,e1,e2⟩:=hL es.toList λ_ h=>h
   have hn:=(RY hk.einj).1 h3
   have hborn:(L.map (·.1.born)).Nodup:=by
    have:L.map (·.1.born)=es.toList.map (·.born):=by rw[<-e1,RS];rfl
    rw[this];exact h2.2.1
   have hkeys:(L.map λq=>q.2.1).Nodup:=by
    have h7:(L.map λq=>q.1.key).Nodup:=by
     have:(L.map λq=>q.1.key)=es.toList.map (·.key):=by rw[<-e1,RS];rfl
     rw[this];exact h2.2.2
    have h8:(L.map λq=>q.1.key)=(L.map λq=>q.2.1).map val:=by
     rw[RS]
     apply List.map_congr_left
     intro q hq
     exact hk.inv _ _ _ _ (e2 q hq).2.1
    rw[h8]at h7
    exact(RU.1 h7).imp λD e'=>D (by rw[e'])
   have hperm:(L.map Prod.snd).Perm lt:=by
    have hnd:(L.map Prod.snd).Nodup:=by
     have:(L.map λq=>q.2.1)=(L.map Prod.snd).map Prod.fst:=by rw[RS];rfl
     rw[this]at hkeys
     exact(RU.1 hkeys).imp λD e'=>D (by rw[e'])
    have hsub:∀q∈L.map Prod.snd,q∈lt:=λq hq=>by
     obtain⟨y,hy,rfl⟩:=YN.1 hq
     exact(e2 y hy).1
    have hlen:lt.length<=(L.map Prod.snd).length:=by
     have:(L.map Prod.fst).length=es.toList.length:=by rw[e1]
     simp[QT]at h4 this ⊢
     omega
    have hltnd:lt.Nodup:=(RU.1 hn).imp λD e'=>D (by rw[e'])
    exact QlH hnd hsub hlen
   have hes:es=(L.map Prod.fst).toArray:=by rw[e1]
   have hfst:(L.map λq=>(q.1,(e q.2.1,f q.2.2))).map Prod.fst=L.map Prod.fst:=by simp
   refine⟨⟨(B.b,j,L.map λq=>(q.1.born,q.2)),by show((L.map _).map _).Nodup;rw[RS];exact hborn,by show((L.map _).map _).Perm _;rw[RS];exact hperm⟩,φ,?_⟩
   refine hr.say' hb (λB' hB' _=>?_) (λe'=>e'.elim)
   rw[hB]at hB';cases hB'
   refine⟨rfl,L.map λq=>(q.1,(e q.2.1,f q.2.2)),by simp[Fz],by rw[h1,hfst,hes],by rw[hfst,<-hes];exact h2,h3,?_,λq hq=>?_⟩
   ·have:(L.map λq=>(q.1,(e q.2.1,f q.2.2))).map Prod.snd=QT e f (L.map Prod.snd):=by simp[QT]
    rw[this];exact hperm.map _
   obtain⟨q',hq',rfl⟩:=YN.1 hq
   exact(e2 q' hq').2
  exact h2.elim
 exact AK.weakenE key λi=>h _ _ _ i.2.1 i.2.2
def R.closeMap {b bm j:Nat}{L:L_ (Nat×(V×V))}{l:L_ (V×V)}(hb:look σ.hp b=some (.mapX bm j L l)){a:Act}{w:World}(h:R C σ a w):R C (σ.set b (.map l)) a w:=by
 obtain⟨φ,hr⟩:=h
 refine⟨φ,hr.say' hb (λB hB hrep=>?_) (λe'=>e'.elim)⟩
 obtain⟨h1,M,rfl,h2,h3,h4,h5,h6⟩:=hrep
 refine⟨(M.map Prod.fst).toArray,j,h2,h3,h4,by have:=h5.length_eq;simpa using this,λx hx=>?_,λp hp=>?_⟩
 ·obtain⟨q,D,rfl⟩:=YN.1 (by simpa using hx:x∈M.map Prod.fst)
  exact⟨q.2,h5.mem_iff.1 (List.mem_map_of_mem D),(h6 q D).1,(h6 q D).2⟩
 obtain⟨q,D,rfl⟩:=YN.1 (h5.mem_iff.2 hp)
 exact⟨q.1,by simpa using (⟨q.2.1,q.2.2,D⟩:∃a b,(q.1,a,b)∈M),(h6 q D).1,(h6 q D).2⟩
def AK.closeMap {b D j:Nat}{L:L_ (Nat×(V×V))}{l:L_ (V×V)}{pt:Pt}(hb:look σ.hp b=some (.mapX D j L l))(k:AK P C Q pt ks (σ.set b (.map l))):AK P C Q pt ks σ:=AK.weaken (λ_ _ h=>R.closeMap hb h) k
def Ql.range {T d b bm j K E:Nat}{x:Operand}{L:L_ (Nat×(V×V))}{l:L_ (V×V)}(ho:o.op=.range T x)(hd:o.dst=some d)(hn:Nat.ble (d+1) C.n=true)(hx:σ.opd x=some (.map b))(hb:look σ.hp b=some (.mapX bm j L l))
  (hT:PW P T=some (K,E)) (hf:look σ.hp d=none):Ql P C o σ ((σ.set d (.itr bm j #[] none)).put d (.loc d 0 0)):=by
 refine Ql.val λφ a w hr=>?_
 obtain⟨B,hB,D⟩:=(hr.opd hx).map_inv
 obtain⟨rfl,M,rfl,h2,_⟩:=hr.block hB hb
 refine⟨.pointer (some ⟨w.heap.size,0,none⟩),w.alloc (.mapIter (some B.b) j #[] j),ext φ d ⟨w.heap.size,1,0,[],0⟩,?_,?_⟩
 ·simp only[execOp,ho,D,Xc,run_range_map w T K E B.b _ j (HB hT) h2,Xm,Xp]
 rw[hd]
 refine(hr.alloc (cap:=1) (z:=0) hf (C.slot hn) (ob:=.itr B.b j #[] none) (obj:=.mapIter (some B.b) j #[] j) ⟨heap_alloc_new w _,rfl,λx h=>by cases h⟩).put (XM hn) ?_
 exact .loc d 0 0 ⟨w.heap.size,1,0,[],0⟩ (Xt _ _ _)
def Ql.range0 {T d K E:Nat}{x:Operand}(ho:o.op=.range T x)(hd:o.dst=some d)(j:Nat.ble (d+1) C.n=true)(hx:σ.opd x=some (.lit (.map none)))(hT:PW P T=some (K,E))(hf:look σ.hp d=none):
  Ql P C o σ ((σ.set d .itr0).put d (.loc d 0 0)):=by
 refine Ql.val λφ a w D=>?_
 have h:=(D.opd hx).lit_inv
 refine⟨.pointer (some ⟨w.heap.size,0,none⟩),w.alloc (.mapIter none 0 #[] 0),ext φ d ⟨w.heap.size,1,0,[],0⟩,?_,?_⟩
 ·simp only[execOp,ho,h,Xc,run_range_nilMap w T K E (HB hT),Xm,Xp]
 rw[hd]
 refine(D.alloc (cap:=1) (z:=0) hf (C.slot j) (ob:=.itr0) (obj:=.mapIter none 0 #[] 0) ⟨#[],0,heap_alloc_new w _,rfl⟩).put (XM j) ?_
 exact .loc d 0 0 ⟨w.heap.size,1,0,[],0⟩ (Xt _ _ _)
def Ql.next0 {d b:Nat}{x:Operand}(ho:o.op=.next x false)(hd:o.dst=some d)(hn:Nat.ble (d+1) C.n=true)(D:σ.opd x=some (.loc b 0 0))(hb:look σ.hp b=some .itr0):Ql P C o σ (σ.put d (.tup [.b false])):=by
 refine Ql.val λφ a w hr=>?_
 obtain⟨B,hB,h⟩:=(hr.opd D).loc_inv
 obtain⟨s,c,h1,h0⟩:=hr.block hB hb
 refine⟨.tuple #[.bool false],w,φ,?_,?_⟩
 ·simp only[CU,Mf,h0]at h
  simp only[execOp,ho,h,Xc]
  have:(Instr.next (.pointer (some ⟨B.b,0,none⟩)) false o.type).run P w=.ok (.tuple #[.bool false]) w:=by
   simp only[Instr.next,getObj,Xc,Sem.run,h1,Result.andThen]
   rfl
  rw[this];rfl
 rw[hd]
 refine hr.put (XM hn) (.tup _ _ rfl λj x v D hv=>?_)
 cases j with
 | zero=>simp at D hv;subst D;subst hv;exact .dat (.b _)
 | succ j=>simp at D
def Ql.entry {d b m bm h:Nat}{x:Operand}{L:L_ (Nat×(V×V))}{l:L_ (V×V)}{seen:Array Nat}{q:Nat×(V×V)}(ho:o.op=.entry x)(hd:o.dst=some d)(hn:Nat.ble (d+1) C.n=true)(D:σ.opd x=some (.loc b 0 0))
  (hb:look σ.hp b=some (.itr bm h seen (some q.1))) (hm:look σ.hp m=some (.mapX bm h L l)) (hq:q∈L):Ql P C o σ (σ.put d (.tup [q.2.1,q.2.2])):=by
 refine Ql.same hd hn λφ a w hr=>?_
 obtain⟨B,hB,hev⟩:=(hr.opd D).loc_inv
 obtain⟨h1,h0,h2⟩:=hr.block hB hb
 obtain⟨s0,rfl⟩:=h2 _ rfl
 rcases hr.heap m _ hm with⟨M,hM,g1,N,rfl,g2,g3,g4,g5,g6⟩|⟨_,e'⟩
 ·obtain⟨q,hn,rfl⟩:=YN.1 hq
  refine⟨.tuple #[q.1.key,q.1.val],?_,.tup _ _ rfl λj x v D hv=>?_⟩
  ·simp only[CU,Mf,h0]at hev
   subst g1
   have he:=run_entry_at (P:=P) w B.b M.b h s0 _ h q.1 h1 g2 (by simpa using (⟨q.2.1,q.2.2,hn⟩:∃a b,(q.1,a,b)∈N)) g3.2.1
   simp only[execOp,ho,hev,Xc,he,Xm,Xp]
  cases j with
  | zero=>simp at D hv;subst D;subst hv;exact .dat (g6 q hn).1
  | succ j=>
   cases j with
   | zero=>simp at D hv;subst D;subst hv;exact .dat (g6 q hn).2
   | succ j=>simp at D
 exact e'.elim
def Qep {π:Type}{N:L_ (MapEntry×π)}{h:Array Nat}:(leftOf (N.map Prod.fst).toArray h).toList=(N.filter λq=>!h.contains q.1.born).map Prod.fst:=by
 simp only[leftOf,Array.toList_filter,List.filter_map];rfl
def Qgn {π:Type}{N:L_ (MapEntry×π)}{h:Array Nat}:YG (N.map λq=>(q.1.born,q.2)) h=(N.filter λq=>!h.contains q.1.born).map λq=>(q.1.born,q.2):=by
 simp only[YG,List.filter_map];rfl
def AK.next {d b m bm h:Nat}{x:Operand}{ops:Array Oper}{rest:L_ Oper}{L:L_ (Nat×(V×V))}{l:L_ (V×V)}{D:Array Nat}{cur:O_ Nat}(hg:o.guard=none)(ho:o.op=.next x false)(hd:o.dst=some d)(hn:Nat.ble (d+1) C.n=true)
  (hx:σ.opd x=some (.loc b 0 0)) (hb:look σ.hp b=some (.itr bm h D cur)) (hm:look σ.hp m=some (.mapX bm h L l)) (hbm:Nat.beq b m=false)
  (hdone:YG L D=[]->AK P C Q (.o ops rest) ks (σ.put d (.tup [.b false])))
  (hpick:∀q∈YG L D,AK P C Q (.o ops rest) ks ((σ.set b (.itr bm h (D.push q.1) (some q.1))).put d (.tup [.b true,.J,.J]))):AK P C Q (.o ops (o::rest)) ks σ:=by
 intro a w ⟨φ,hr⟩
 simp only[wpListIn,Region.wanted,hg,if_true]
 obtain⟨B,hB,hev⟩:=(hr.opd hx).loc_inv
 obtain⟨h1,h0,h2⟩:=hr.block hB hb
 simp only[CU,Mf,h0]at hev
 rcases hr.heap m _ hm with⟨M,hM,g1,N,rfl,g2,g3,g4,g5,g6⟩|⟨_,e'⟩
 ·subst g1
  refine⟨λ_ _=>trivial,?_⟩
  rw[Oper.semAt_eq _ _ _ (by rw[ho];intro c hc;cases hc)]
  have hold:∀y∈(N.map Prod.fst).toArray.toList,y.born<h:=g3.1
  rcases run_next_at (P:=P) w o.type B.b M.b h h D _ h h1 g2 hold (JE _)with⟨k1,k2⟩|⟨e,k1,w1,k2,k3⟩
  ·simp only[execOp,ho,hev,Xc,k2,Xm,Xp]
   rw[Oper.uponIn_value]
   refine hdone ?_ _ _ ⟨φ,?_⟩
   ·have h3:(leftOf (N.map Prod.fst).toArray D).toList.length=0:=by simpa using k1
    rw[Qep]at h3
    exact FO.1 (by simpa[Qgn] using h3)
   rw[hd]
   refine hr.put (XM hn) (.tup _ _ rfl λj x v hx hv=>?_)
   cases j with
   | zero=>simp at hx hv;subst hx;subst hv;exact .dat (.b _)
   | succ j=>simp at hx
  simp only[execOp,ho,hev,Xc,k3,Xm,Xp]
  rw[Oper.uponIn_value]
  rw[Qep]at k1
  obtain⟨q,hq,rfl⟩:=YN.1 k1
  refine hpick (q.1.born,q.2) (by rw[Qgn];exact YN.2 ⟨q,hq,rfl⟩) _ _ ?_
  have hr1:RR C φ σ a w1:=by
   rcases k2 with rfl | rfl
   ·exact hr
   exact hr.step rfl rfl rfl (JE _) (λ_ _=>rfl)
  have hheap:w1.heap=w.heap:=by rcases k2 with rfl | rfl<;>rfl
  have hlt:=(hr1.lt b B B.b hB B.self).1
  have h4:RR C φ (σ.set b (.itr M.b h (D.push q.1.born) (some q.1.born))) a (Go.ChangeMaps.setBlock w1 B.b (.mapIter (some M.b) h (D.push q.1.born) h)):=by
   refine hr1.write hB (by rfl) (by rfl) (by rfl) ?_ ?_ ?_
   ·simp[Go.ChangeMaps.setBlock]
   ·intro k hk
    simp only[Go.ChangeMaps.setBlock]
    exact Fx _ (λe=>hk e)
   refine⟨?_,h0,λx e=>?_⟩
   ·simp[Go.ChangeMaps.setBlock,Zf,hlt]
   cases e;exact⟨D,rfl⟩
  refine⟨φ,?_⟩
  rw[hd]
  refine h4.put (XM hn) (.tup _ _ rfl λj x v hx hv=>?_)
  cases j with
  | zero=>simp at hx hv;subst hx;subst hv;exact .dat (.b _)
  | succ j=>
   cases j with
   | zero=>simp at hx hv;subst hv;exact .dat (.J _)
   | succ j=>
    cases j with
    | zero=>simp at hx hv;subst hv;exact .dat (.J _)
    | succ j=>simp at hx
 exact e'.elim
def QiN {κ α:Type}{e:κ->V}{f:α->V}{L:L_ (Nat×(κ×α))}{h:Array Nat}:YG (Fz e f L) h=Fz e f (YG L h):=by
 simp only[YG,Fz,List.filter_map];rfl
def AK.nextT {d b m bm j:Nat}{x:Operand}{ops:Array Oper}{rest:L_ Oper}{κ α:Type}{e:κ->V}{f:α->V}{L:L_ (Nat×(κ×α))}{l:L_ (V×V)}{D:Array Nat}{cur:O_ Nat}(hg:o.guard=none)(ho:o.op=.next x false)(hd:o.dst=some d)
  (hn:Nat.ble (d+1) C.n=true) (hx:σ.opd x=some (.loc b 0 0)) (hb:look σ.hp b=some (.itr bm j D cur)) (hm:look σ.hp m=some (.mapX bm j (Fz e f L) l)) (hbm:Nat.beq b m=false)
  (hdone:YG L D=[]->AK P C Q (.o ops rest) ks (σ.put d (.tup [.b false])))
  (hpick:∀x k v,(x,(k,v))∈YG L D->AK P C Q (.o ops rest) ks ((σ.set b (.itr bm j (D.push x) (some x))).put d (.tup [.b true,.J,.J]))):AK P C Q (.o ops (o::rest)) ks σ:=by
 refine AK.next hg ho hd hn hx hb hm hbm (λh=>hdone ?_) (λq hq=>?_)
 ·rw[QiN]at h;simpa[Fz] using h
 rw[QiN]at hq
 obtain⟨q',hq',rfl⟩:=YN.1 hq
 exact hpick q'.1 q'.2.1 q'.2.2 hq'
def Ql.entryT {d b m D h:Nat}{x:Operand}{κ α:Type}{e:κ->V}{f:α->V}{L:L_ (Nat×(κ×α))}{l:L_ (V×V)}{j:Array Nat}{y:Nat}{k:κ}{v:α}(ho:o.op=.entry x)(hd:o.dst=some d)(hn:Nat.ble (d+1) C.n=true)(hx:σ.opd x=some (.loc b 0 0))
  {s0:Array Nat} (hq:(y,(k,v))∈YG L s0) (hb:look σ.hp b=some (.itr D h j (some y))) (hm:look σ.hp m=some (.mapX D h (Fz e f L) l)):Ql P C o σ (σ.put d (.tup [e k,f v])):=
 Ql.entry (q:=(y,(e k,f v))) ho hd hn hx hb hm (YN.2 ⟨(y,(k,v)),(Mc.1 hq).1,rfl⟩)
def AK.loopOnce {c:Code}(h:AK P C Q (.c c) (.cut (λ_=>False)::ks) σ):AK P C Q (.c (.loop c)) ks σ:=by
 intro a w hR
 refine wpIn_loop_rounds 1 ?_
 rw[roundsIn_succ]
 refine wpIn_mono (h a w hR) ?_
 rintro e a' w' ⟨σ',j,D⟩
 cases e<;>first | exact j.elim | exact⟨σ',j,D⟩
def Qqr {τ ρ π:Type}(body:τ->π->O_ (τ⊕ρ))(L:L_ (Nat×π))(E:τ->Array Nat->St->Prop)(j:ρ->Exit->St->Prop)(PD:τ->Exit->St->Prop)(s:τ)(h:Array Nat):Exit->St->Prop:=λe σ'=>
 (YG L h=[]/\e≠.normal/\PD s e σ')\/∃q∈YG L h,(∃D,body s q.2=some (.inl D)/\e=.normal/\E D (h.push q.1) σ')\/(∃r,body s q.2=some (.inr r)/\e≠.normal/\j r e σ')
def AK.range {τ ρ π:Type}{body:τ->π->O_ (τ⊕ρ)}{c:Code}{lt:L_ π}{L:L_ (Nat×π)}(E:τ->Array Nat->St->Prop)(Post:ρ->Exit->St->Prop)(PD:τ->Exit->St->Prop){s0:τ}{r:τ⊕ρ}(hn:(L.map (·.1)).Nodup)(hp:(L.map Prod.snd).Perm lt)
  (hr:CX body s0 lt=some r) (h0:E s0 #[] σ)
  (round:∀s j σ,E s j σ->(∀q∈YG L j,∃o,body s q.2=some o)->AK P C (Qqr body L E Post PD s j) (.c c) [] σ)
  (hQ:∀e σ',(Sum.elim (λs=>PD s e σ') (λq=>Post q e σ') r)->AK P C Q (.x e) ks σ'):AK P C Q (.c (.loop c)) ks σ:=by
 obtain⟨hperm,hrun⟩:=Il.1 hr
 have key:∀(k:Nat) (s:τ) (j:Array Nat),(YG L j).length=k->(∃dn,(dn++(YG L j).map Prod.snd).Perm lt/\WL body s0 dn=some (.inl s))->∀σ a w,E s j σ->R C σ a w->
   Code.roundsIn C.F 0 P c (up C λe σ'=>Sum.elim (λs=>PD s e σ') (λq=>Post q e σ') r) (k+1) a w:=by
  intro k
  induction k with
  | zero=>
   rintro s j hk ⟨dn,hd1,hd2⟩ σ a w hE hR
   have hnil:=FO.1 hk
   rw[roundsIn_succ]
   refine wpIn_mono (round s j σ hE (λq D=>by rw[hnil]at D;cases D) a w hR) ?_
   rintro e a' w' ⟨σ',D,hR'⟩
   rcases D with⟨_,h2,h3⟩|⟨q,D,_⟩
   ·rw[hnil]at hd1
    have:WL body s0 dn=some r:=by rw[<-hrun];exact hperm dn (by simpa using hd1)
    rw[this]at hd2;cases hd2
    cases e<;>first | exact absurd rfl h2 | exact⟨σ',h3,hR'⟩
   rw[hnil]at D;cases D
  | succ k ih=>
   rintro s j hk ⟨dn,hd1,hd2⟩ σ a w hE hR
   rw[roundsIn_succ]
   have hall:∀q∈YG L j,∃o,body s q.2=some o/\∃rest,(dn++q.2::rest).Perm lt/\rest=(YG L (j.push q.1)).map Prod.snd:=λq D=>by
    have h1:=(QaC hn D).map Prod.snd
    have h2:(dn++q.2::(YG L (j.push q.1)).map Prod.snd).Perm lt:=((List.Perm.append_left dn h1).symm).trans hd1
    have h3:WL body s0 (dn++q.2::(YG L (j.push q.1)).map Prod.snd)=some r:=by rw[<-hrun];exact hperm _ h2
    rw[Zl,hd2]at h3
    simp only[Qd,Sum.elim_inl,WL]at h3
    cases hb:body s q.2 with
    | none=>rw[hb]at h3;cases h3
    | some o=>exact⟨o,rfl,_,h2,rfl⟩
   refine wpIn_mono (round s j σ hE (λq D=>let ⟨o,h,_⟩:=hall q D;⟨o,h⟩) a w hR) ?_
   rintro e a' w' ⟨σ',D,hR'⟩
   rcases D with⟨h1,_,_⟩|⟨q,D,⟨s',h1,rfl,h3⟩|⟨r',h1,h2,h3⟩⟩
   ·rw[h1]at hk;cases hk
   ·obtain⟨_,_,rest,h5,h6⟩:=hall q D
    refine ih s' (j.push q.1) ?_ ⟨dn++[q.2],?_,?_⟩ σ' a' w' h3 hR'
    ·have:=(QaC hn D).length_eq;simp at this;omega
    ·rw[WD,List.singleton_append,<-h6];exact h5
    rw[Zl,hd2];simp only[Qd,Sum.elim_inl,WL,h1]
   obtain⟨_,_,rest,h5,h6⟩:=hall q D
   have h7:WL body s0 (dn++q.2::rest)=some r:=by rw[<-hrun];exact hperm _ h5
   rw[Zl,hd2]at h7
   simp only[Qd,Sum.elim_inl,WL,h1,Sum.elim_inr]at h7
   cases h7
   cases e<;>first | exact absurd rfl h2 | exact⟨σ',h3,hR'⟩
 intro a w hR
 have hL:YG L #[]=L:=by simp[YG]
 refine wpIn_mono (wpIn_loop_rounds _ (key _ s0 #[] rfl ⟨[],by rw[hL];simpa using hp,rfl⟩ σ a w h0 hR)) ?_
 rintro e a' w' ⟨σ',h1,h2⟩
 exact hQ e σ' h1 a' w' h2
end
structure XX where
 kills:List Nat
 sets:List (Nat×Ob)
 put:Option (Nat×V)
def St.sets (σ:St):L_ (Nat×Ob)->St
 | []=>σ
 | (o,ob)::r=>(σ.sets r).set o ob
def XX.run (M:XX)(σ:St):St:=match M.put with
 | none=>(σ.killL M.kills).sets M.sets
 | some (d,v)=>((σ.killL M.kills).sets M.sets).put d v
def GN (σ B:St):Prop:=(∀t v,look B.fr t=some v->look σ.fr t=some v)/\∀p ob,look B.hp p=some ob->look σ.hp p=some ob
def OM {b:Nat}:∀(l:L_ (Nat×V)) (t:Nat),look (CW b l) t=(look l t).map (V.kill b):=by
 intro l
 induction l with
 | nil=>intro t;rfl
 | cons p l h=>
  obtain⟨k,v⟩:=p
  intro t
  by_cases e:k=t
  ·subst e;rw[CW,QA,QA];rfl
  rw[CW,Qv _ _ e,Qv _ _ e];exact h t
def Im {b:Nat}:∀(l:L_ (Nat×Ob)) (t:Nat),look (EB b l) t=if t=b then none else(look l t).map (Ob.kill b):=by
 intro l t
 by_cases h:t=b
 ·rw[if_pos h]
  cases D:look (EB b l) t with
  | none=>rfl
  | some ob=>obtain⟨j,_⟩:=KP _ _ _ D;exact absurd h j
 rw[if_neg h]
 cases D:look l t with
 | none=>
  cases hk:look (EB b l) t with
  | none=>rfl
  | some ob=>obtain⟨_,ob',j,_⟩:=KP _ _ _ hk;rw[D]at j;cases j
 | some ob=>exact Ul _ _ _ h D
def GN.kill {σ B:St}(h:GN σ B)(b:Nat):GN (σ.kill b) (B.kill b):=by
 refine⟨λt v D=>?_,λp ob j=>?_⟩
 ·have D:look (CW b B.fr) t=some v:=D
  show look (CW b σ.fr) t=some v
  rw[OM]at D ⊢
  obtain⟨u,hu,rfl⟩:=XT.1 D
  rw[h.1 t u hu];rfl
 have j:look (EB b B.hp) p=some ob:=j
 show look (EB b σ.hp) p=some ob
 rw[Im]at j ⊢
 split at j
 ·cases j
 rename_i hne
 rw[if_neg hne]
 obtain⟨u,hu,rfl⟩:=XT.1 j
 rw[h.2 p u hu];rfl
def GN.killL : ∀{l:L_ Nat} {σ B:St},GN σ B->GN (σ.killL l) (B.killL l):=by
 intro l
 induction l with
 | nil=>intro σ B h;exact h
 | cons b l j=>intro σ B h;exact j (h.kill b)
def GN.set {σ B:St}(h:GN σ B)(o:Nat)(ob:Ob):GN (σ.set o ob) (B.set o ob):=by
 refine⟨h.1,λp u j=>?_⟩
 by_cases e:p=o
 ·subst e;rw[St.look_set_same]at j ⊢;exact j
 rw[St.look_set_other _ _ (Ne.symm e)]at j ⊢;exact h.2 p u j
def GN.sets : ∀{l:L_ (Nat×Ob)} {σ B:St},GN σ B->GN (σ.sets l) (B.sets l):=by
 intro l
 induction l with
 | nil=>intro σ B h;exact h
 | cons p l j=>intro σ B h;exact(j h).set p.1 p.2
def GN.put {σ B:St}(h:GN σ B)(d:Nat)(v:V):GN (σ.put d v) (B.put d v):=by
 refine⟨λt u j=>?_,h.2⟩
 have j:look ((d,v)::B.fr) t=some u:=j
 show look ((d,v)::σ.fr) t=some u
 by_cases e:d=t
 ·subst e;rw[QA]at j ⊢;exact j
 rw[Qv _ _ e]at j ⊢;exact h.1 t u j
def GN.run {σ B:St}(h:GN σ B)(M:XX):GN (M.run σ) (M.run B):=by
 unfold XX.run
 split
 ·exact h.killL.sets
 exact h.killL.sets.put _ _
def XX.keeps (M:XX)(t:Nat)(v:V):Bool:=M.kills.all (λb=>v.free b)&&(match M.put with | none=>true | some (d,_)=>!(Nat.beq d t))
def XX.keepsO (M:XX)(p:Nat):Bool:=M.kills.all (λb=>!(Nat.beq b p))&&M.sets.all (λq=>!(Nat.beq q.1 p))
def Ob.keep1 (b:Nat):Ob->Bool
 | .var h=>h.all (V.freeC b)
 | .lp _ _ h _=>h.all (V.freeC b)
 | _=>true
def QlI : ∀{l:L_ Nat} {σ:St} {t:Nat} {v:V},l.all (λb=>v.free b)=true->look σ.fr t=some v->look (σ.killL l).fr t=some v:=by
 intro l
 induction l with
 | nil=>intro σ t v _ h;exact h
 | cons b l D=>
  intro σ t v j h
  rw[Pj,QH]at j
  refine D j.2 ?_
  show look (CW b σ.fr) t=some v
  rw[OM,h,WU,V.kill,j.1];rfl
def QhO : ∀{l:L_ (Nat×Ob)} {σ:St},(σ.sets l).fr=σ.fr:=by
 intro l
 induction l with
 | nil=>intro σ;rfl
 | cons p l h=>intro σ;exact h
def XX.keeps_look {M:XX}{σ:St}{t:Nat}{v:V}(j:M.keeps t v=true)(h:look σ.fr t=some v):look (M.run σ).fr t=some v:=by
 unfold XX.keeps at j
 rw[QH]at j
 have h1:look ((σ.killL M.kills).sets M.sets).fr t=some v:=by rw[QhO];exact QlI j.1 h
 unfold XX.run
 split
 ·exact h1
 rename_i d u hp
 rw[hp]at j
 have D:d≠t:=Cf j.2
 show look ((d,u)::_) t=some v
 rw[Qv _ _ D];exact h1
def QhP : ∀{l:L_ Nat} {σ:St} {p:Nat},look σ.hp p=none->look (σ.killL l).hp p=none:=by
 intro l
 induction l with
 | nil=>intro σ p h;exact h
 | cons b l j=>
  intro σ p h
  refine j ?_
  show look (EB b σ.hp) p=none
  rw[Im,h];simp
def Qj1 : ∀{l:L_ (Nat×Ob)} {σ:St} {p:Nat},l.all (λq=>!(Nat.beq q.1 p))=true->look σ.hp p=none->look (σ.sets l).hp p=none:=by
 intro l
 induction l with
 | nil=>intro σ p _ h;exact h
 | cons q l D=>
  intro σ p j h
  rw[Pj,QH]at j
  show look ((σ.sets l).set q.1 q.2).hp p=none
  rw[St.look_set_other _ _ (Cf j.1)];exact D j.2 h
def XX.none_look {M:XX}{σ:St}{p:Nat}(D:M.sets.all (λq=>!(Nat.beq q.1 p))=true)(h:look σ.hp p=none):look (M.run σ).hp p=none:=by
 have j:look ((σ.killL M.kills).sets M.sets).hp p=none:=Qj1 D (QhP h)
 unfold XX.run
 split<;>exact j
def Ob.kill_keep {ob:Ob}{b:Nat}(h:ob.keep1 b=true):ob.kill b=ob:=by
 cases ob with
 | var j=>
  simp only[Ob.keep1,XD]at h
  simp only[Ob.kill,Ob.var.injEq]
  conv=>rhs;rw[<-List.map_id j]
  apply List.map_congr_left
  intro v D
  simp only[V.killC,h v D,Qx,id]
 | lp l K j q=>
  simp only[Ob.keep1,XD]at h
  simp only[Ob.kill,Ob.lp.injEq,true_and,and_true]
  conv=>rhs;rw[<-List.map_id j]
  apply List.map_congr_left
  intro v D
  simp only[V.killC,h v D,Qx,id]
 | _=>rfl
def Qjc : ∀{l:L_ Nat} {σ:St} {p:Nat} {ob:Ob},l.all (λb=>!(Nat.beq b p))=true->l.all (λb=>ob.keep1 b)=true->look σ.hp p=some ob->look (σ.killL l).hp p=some ob:=by
 intro l
 induction l with
 | nil=>intro σ p ob _ _ h;exact h
 | cons b l D=>
  intro σ p ob j hp h
  rw[Pj,QH]at j hp
  refine D j.2 hp.2 ?_
  show look (EB b σ.hp) p=some ob
  rw[Im,if_neg (Cf j.1).symm,h,WU,Ob.kill_keep hp.1]
def Qj2 : ∀{l:L_ (Nat×Ob)} {σ:St} {p:Nat} {ob:Ob},l.all (λq=>!(Nat.beq q.1 p))=true->look σ.hp p=some ob->look (σ.sets l).hp p=some ob:=by
 intro l
 induction l with
 | nil=>intro σ p ob _ h;exact h
 | cons q l D=>
  intro σ p ob j h
  rw[Pj,QH]at j
  show look ((σ.sets l).set q.1 q.2).hp p=some ob
  rw[St.look_set_other _ _ (Cf j.1)];exact D j.2 h
def XX.keepsO_look {M:XX}{σ:St}{p:Nat}{ob:Ob}(j:M.keepsO p=true)(hp:M.kills.all (λb=>ob.keep1 b)=true)(h:look σ.hp p=some ob):look (M.run σ).hp p=some ob:=by
 unfold XX.keepsO at j
 rw[QH]at j
 have D:look ((σ.killL M.kills).sets M.sets).hp p=some ob:=Qj2 j.2 (Qjc j.1 hp h)
 unfold XX.run
 split<;>exact D
section
variable {P:Program}{C:Xq}{Q:Exit->St->Prop}{ops:Array Oper}{σ:St}{ks:L_ Fr}
def QmF (Inv:Array Bool->St->Prop)
  (step:∀D σ i o,D.size=ops.size->Qb4 ops D->i∈Region.ready .any ops D->ops[i]? = some o->Inv D σ->∃σ',Jw P C ops o σ σ'/\Inv (D.setIfInBounds i true) σ')
  (hord:QhJ ops=true) (hend:∀D σ,D.size=ops.size->(∀i,i<ops.size->D[i]? = some true)->Inv D σ->∀a w,R C σ a w->up C Q .normal a w):
  ∀(fuel:Nat) (D:Array Bool) (a:Act) (w:World) (σ:St),((List.range ops.size).filter λi=>!(D[i]? == some true)).length<=fuel->D.size=ops.size->Qb4 ops D->Inv D σ->R C σ a w->wpAnyIn C.F 0 P .any ops (up C Q) fuel D a w:=by
 intro fuel
 have allOf:∀{D:Array Bool},D.size=ops.size->Region.ready .any ops D=[]->∀i,i<ops.size->D[i]? = some true:=by
  intro D hs hr
  apply Classical.byContradiction
  intro h
  have hex:∃i,i<ops.size/\D[i]? ≠ some true:=by
   apply Classical.byContradiction
   intro h'
   exact h λi hi=>Classical.byContradiction λhn=>h' ⟨i,hi,hn⟩
  obtain⟨k,h1,h2,h3⟩:=QjN ops.size hex
  have:=QkQ hord hs h1 h2 h3
  rw[hr]at this;cases this
 induction fuel with
 | zero=>
  intro D a w σ hf hs hd hI hR
  have hall:∀i,i<ops.size->D[i]? = some true:=λi hi=>by
   have:=FO.1 (Nat.le_zero.1 hf)
   rw[List.filter_eq_nil_iff]at this
   simpa using this i (Au.2 hi)
  refine⟨?_,hend D σ hs hall hI a w hR⟩
  rw[List.eq_nil_iff_forall_not_mem]
  intro i hi
  obtain⟨o,ho,hl,_⟩:=(Nl hs).1 hi
  rw[hall i (Cj.1 ho).1]at hl;cases hl
 | succ fuel ih=>
  intro D a w σ hf hs hd hI hR
  refine⟨λhr=>hend D σ hs (allOf hs hr) hI a w hR,λi hi=>?_⟩
  obtain⟨o,ho,hl,hdeps⟩:=(Nl hs).1 hi
  obtain⟨σ',hos,hI'⟩:=step D σ i o hs hd hi ho hI
  have hin:i<D.size:=by rw[hs];exact(Cj.1 ho).1
  have next:∀a' w',R C σ' a' w'->wpAnyIn C.F 0 P .any ops (up C Q) fuel (D.setIfInBounds i true) a' w':=λa' w' hR'=>by
   refine ih _ a' w' σ' ?_ (by simpa using hs) (hd.set hs hi) hI' hR'
   have count:∀(l:L_ Nat),i∈l->(l.filter λj=>!((D.setIfInBounds i true)[j]? == some true)).length+1<=(l.filter λj=>!(D[j]? == some true)).length:=by
    intro l
    have le:∀(l:L_ Nat),(l.filter λj=>!((D.setIfInBounds i true)[j]? == some true)).length<=(l.filter λj=>!(D[j]? == some true)).length:=by
     intro l
     induction l with
     | nil=>simp
     | cons x l ihl=>
      by_cases e:i=x
      ·subst e
       rw[List.filter_cons_of_neg (by simp[Zf,hin]),List.filter_cons_of_pos (by rw[hl];simp)]
       simp;omega
      simp only[Mb,QjI e]
      split
      ·simpa using ihl
      exact ihl
    induction l with
    | nil=>intro h;cases h
    | cons x l ihl=>
     intro hm
     by_cases e:i=x
     ·subst e
      rw[List.filter_cons_of_neg (by simp[Zf,hin]),List.filter_cons_of_pos (by rw[hl];simp)]
      have:=le l
      simp;omega
     have hm':i∈l:=by
      rcases Yt.1 hm with h | h
      ·exact absurd h e
      exact h
     have:=ihl hm'
     simp only[Mb,QjI e]
     split
     ·simpa using this
     exact this
   have:=count (List.range ops.size) (Au.2 (by rw[<-hs];exact hin))
   omega
  unfold wpOpIn
  simp only[ho]
  have:=hos a w hR (wpAnyIn C.F 0 P .any ops (up C Q) fuel (D.setIfInBounds i true)) (up C Q) next
  split
  ·rename_i hw;rw[if_pos hw]at this;exact this
  rename_i hw;rw[if_neg hw]at this;exact⟨λ_ _=>trivial,this⟩
def AK.regionInv {id:Nat}(D:Array Bool->St->Prop)(hmix:P.follows .mixedOrders=true)
  (step:∀j σ i o,j.size=ops.size->Qb4 ops j->i∈Region.ready .any ops j->ops[i]? = some o->D j σ->∃σ',Jw P C ops o σ σ'/\D (j.setIfInBounds i true) σ')
  (hord:QhJ ops=true) (h0:D (Array.replicate ops.size false) σ) (hend:∀j σ',j.size=ops.size->(∀i,i<ops.size->j[i]? = some true)->D j σ'->AK P C Q (.x .normal) ks σ'):AK P C Q (.c (.region id ops true)) ks σ:=by
 intro a w hR
 refine wpIn_region_any hmix ?_
 have hR':R C σ a { w with drawn:=w.drawn+1 }:=by
  obtain⟨φ,hr⟩:=hR
  exact⟨φ,hr.step rfl rfl rfl (JE _) (λ_ _=>rfl)⟩
 refine QmF D step hord (λj σ' hs hall hI a w hR=>hend j σ' hs hall hI a w hR) ops.size (Array.replicate ops.size false) a _ σ ?_ (by simp) ?_ h0 hR'
 ·exact Jn (Qda _ _) (by simp)
 intro i o _ h
 simp[Array.getElem?_replicate]at h
end
inductive It where
 | add (x:DF) (fl nf:Bool)
 | tn (M:XX)
def Xi : L_ It->L_ XX
 | []=>[]
 | .add _ _ _::r=>Xi r
 | .tn M::r=>M::Xi r
def NC (base:St):L_ XX->St
 | []=>base
 | M::r=>NC (M.run base) r
def QjC (x:DF)(M:XX):Bool:=match x.ob with | none=>true | some ob=>M.keepsO x.d&&M.kills.all (λb=>ob.keep1 b)
def QjD (x:DF)(M:XX):Bool:=M.keeps x.d x.v&&QjC x M
def alv (x:DF)(fl:Bool)(ms:L_ XX):Bool:=ms.all (λM=>M.keeps x.d x.v)
def Zm (x:DF)(fl:Bool)(ms:L_ XX):Bool:=ms.all (QjC x)
def ND (σ:St)(x:DF)(fl:Bool)(ms:L_ XX):Prop:=(alv x fl ms=true->look σ.fr x.d=some x.v)/\(Zm x fl ms=true->∀ob,x.ob=some ob->look σ.hp x.d=some ob)
def Bn (ops:Array Oper):Nat->Nat->Nat->Bool
 | 0,_,_=>false
 | n+1,i,k=>match ops[k]? with
  | some o=>Lc o i||o.after.toList.any λe=>Region.binds .any e&&Bn ops n i e.on
  | none=>false
def QaD (its:L_ It)(p:Nat):Bool:=match its[p]? with
 | some (.tn _)=>true
 | _=>false
def QnT (ops:Array Oper)(its:L_ It):Bool:=(List.range its.length).all λi=>(List.range its.length).all λp=>!(QaD its p)||Nat.beq p i ||
 (match its[i]? with | some (.add _ true false)=>true | some _=>bif Nat.ble (p+1) i then Bn ops 8 p i else Bn ops 8 i p | none=>true)
def SJ : L_ It->L_ Nat
 | []=>[]
 | .add x _ _::r=>x.d::SJ r
 | .tn _::r=>SJ r
def HC : L_ XX->L_ Nat
 | []=>[]
 | M::r=>match M.put with
  | some (d,_)=>d::HC r
  | none=>HC r
def Qj3 : L_ XX->L_ Nat
 | []=>[]
 | M::r=>M.sets.map Prod.fst++Qj3 r
def QaE : L_ It->L_ Nat
 | []=>[]
 | .add x _ _::r=>match x.ob with
  | some _=>x.d::QaE r
  | none=>QaE r
 | .tn _::r=>QaE r
def HD (ms:L_ XX):L_ It->Bool
 | []=>true
 | .add x fl _::r=>(!fl||ms.all (QjD x))&&HD ms r
 | .tn _::r=>HD ms r
def Qcf (ms:L_ XX)(S:St):Bool:=S.fr.all (λp=>ms.all λM=>M.keeps p.1 p.2)&&S.hp.all (λp=>ms.all λM=>M.keepsO p.1&&M.kills.all (λb=>p.2.keep1 b))
def Qj4 (base:St)(its:L_ It):Bool:=BD (SJ its)&&(SJ its).all (λd=>!(Xz (keys base.fr) d)&&!(Xz (HC (Xi its)) d)) &&
 (QaE its).all (λd=>!(Xz (keys base.hp) d))
def QlJ (ops:Array Oper)(its:L_ It):Bool:=(List.range its.length).all λi=>(List.range its.length).all λp=>match its[i]? with
 | some (.add x _ _)=>match its[p]? with
  | some (.tn M)=>x.ob.isNone||!(Xz (M.sets.map Prod.fst) x.d)||Bn ops 8 i p
  | _=>true
 | _=>true
section
variable {P:Program}{C:Xq}{Q:Exit->St->Prop}{ops:Array Oper}{ks:L_ Fr}{base S:St}{its:L_ It}
def j0 (its:L_ It)(k:Nat):Nat:=(Xi (its.take k)).length
def ZJ (P:Program)(C:Xq)(ops:Array Oper)(base S:St)(its:L_ It)(i:Nat)(o:Oper):It->Prop
 | .add x fl h=>match fl&&!h with
  | false=>∀σ,GN σ (NC base ((Xi its).take (j0 its i)))->(∀k y fl h,its[k]? = some (.add y fl h)->Lc o k=true->ND σ y fl (((Xi its).take (j0 its i)).drop (j0 its k)))->(x.ob.isSome=true->look σ.hp x.d=none)->Jw P C ops o σ (σ.addF x)
  | true=>∀σ,GN σ S->(∀k y h,its[k]? = some (.add y true h)->Lc o k=true->Qav σ y)->(x.ob.isSome=true->look σ.hp x.d=none)->Jw P C ops o σ (σ.addF x)
 | .tn M=>∀σ,GN σ (NC base ((Xi its).take (j0 its i)))->(∀k y fl h,its[k]? = some (.add y fl h)->Lc o k=true->ND σ y fl (((Xi its).take (j0 its i)).drop (j0 its k)))->Jw P C ops o σ (M.run σ)
def BF {j:Array Bool}(hd:Qb4 ops j):∀(n:Nat) {i k:Nat},Bn ops n i k=true->j[k]? = some true->j[i]? = some true:=by
 intro n
 induction n with
 | zero=>intro i k h;cases h
 | succ n ih=>
  intro i k h hk
  rw[Bn]at h
  split at h
  ·rename_i o ho
   rw[Kh]at h
   rcases h with h | h
   ·simp only[Lc,GX,QH]at h
    obtain⟨e,he,D,hon⟩:=h
    have:=hd k o ho hk e (Qey.1 he) D
    rwa[Yu hon]at this
   simp only[GX,QH]at h
   obtain⟨e,he,D,hm⟩:=h
   exact ih hm (hd k o ho hk e (Qey.1 he) D)
  cases h
def Qeq {j:Array Bool}(hs:j.size=ops.size)(hd:Qb4 ops j){n i k:Nat}(h:Bn ops n i k=true)(hk:k∈Region.ready .any ops j):j[i]? = some true:=by
 obtain⟨o,ho,hl,D⟩:=(Nl hs).1 hk
 cases n with
 | zero=>cases h
 | succ n=>
  rw[Bn,ho]at h
  dsimp only at h
  rw[Kh]at h
  rcases h with h | h
  ·simp only[Lc,GX,QH]at h
   obtain⟨e,he,hb,hon⟩:=h
   have:=D e (Qey.1 he) hb
   rwa[Yu hon]at this
  simp only[GX,QH]at h
  obtain⟨e,he,hb,hm⟩:=h
  exact BF hd n hm (D e (Qey.1 he) hb)
def Ad : ∀{l m:L_ It},Xi (l++m)=Xi l++Xi m:=by
 intro l
 induction l with
 | nil=>intro m;rfl
 | cons x l h=>intro m;cases x<;>simp[Xi,h]
def Qgo {ms h:L_ XX}:∀{B:St},NC B (ms++h)=NC (NC B ms) h:=by
 induction ms with
 | nil=>intro B;rfl
 | cons M ms j=>intro B;exact j
def QlK {its:L_ It}{i:Nat}{M:XX}(h:its[i]? = some (.tn M)):(Xi its)[j0 its i]? = some M/\(Xi its).take (j0 its i+1)=(Xi its).take (j0 its i)++[M]:=by
 have j:=(Xe.1 h).1
 have e:its=its.take i++(.tn M::its.drop (i+1)):=by
  have:its.drop i=its[i]::its.drop (i+1):=Nt j
  have h2:its[i]=.tn M:=by have:=Qy j;rw[h]at this;exact(Option.some.inj this).symm
  rw[h2]at this
  rw[<-this,List.take_append_drop]
 have D:Xi its=Xi (its.take i)++(M::Xi (its.drop (i+1))):=by
  conv=>lhs;rw[e]
  rw[Ad];rfl
 unfold j0
 rw[D]
 refine⟨by simp,?_⟩
 rw[List.take_append,List.take_append]
 simp[KE]
def QlL {σ:St}{x:DF}{M:XX}(D:QjD x M=true)(h:Qav σ x):Qav (M.run σ) x:=by
 unfold QjD QjC at D
 rw[QH]at D
 refine⟨XX.keeps_look D.1 h.1,λob hob=>?_⟩
 rw[hob]at D
 have j:=D.2
 dsimp only at j
 rw[QH]at j
 exact XX.keepsO_look j.1 j.2 (h.2 ob hob)
def ND.of {σ:St}{x:DF}{fl:Bool}{ms:L_ XX}(h:Qav σ x):ND σ x fl ms:=⟨λ_=>h.1,λ_=>h.2⟩
def ND.run {σ:St}{x:DF}{fl:Bool}{ms:L_ XX}{M:XX}(h:ND σ x fl ms):ND (M.run σ) x fl (ms++[M]):=by
 refine⟨λj=>?_,λj ob hob=>?_⟩
 ·simp only[alv,List.all_append,QH,Pj,List.all_nil,Bool.and_true]at j
  exact XX.keeps_look j.2 (h.1 (by simp only[alv];exact j.1))
 simp only[Zm,List.all_append,QH,Pj,List.all_nil,Bool.and_true]at j
 have h1:=h.2 (by simp only[Zm];exact j.1) ob hob
 have D:=j.2
 unfold QjC at D
 rw[hob]at D
 dsimp only at D
 rw[QH]at D
 exact XX.keepsO_look D.1 D.2 h1
def QmG {p:Nat}{M:XX}(h:its[p]? = some (.tn M)):j0 its (p+1)=j0 its p+1:=by
 have j:=(Xe.1 h).1
 unfold j0
 rw[GZ,h,Ad];simp[Xi]
def Qgp : ∀{a b:Nat},a<=b->j0 its a<=j0 its b:=by
 intro a b h
 unfold j0
 obtain⟨c,rfl⟩:=Nat.exists_eq_add_of_le h
 rw[List.take_add,Ad];simp
def QlM {p i:Nat}{M:XX}(h:its[p]? = some (.tn M))(j:p<i):j0 its p<j0 its i:=by
 have:=QmG h
 have:=Qgp (its:=its) (show p+1<=i from j)
 omega
def Qdi : ∀{its:L_ It} {c:Nat},c<(Xi its).length->∃p M,its[p]? = some (.tn M)/\j0 its p=c:=by
 intro its
 induction its with
 | nil=>intro c h;simp[Xi]at h
 | cons it its ih=>
  intro c h
  cases it with
  | add x fl=>
   obtain⟨p,M,j,D⟩:=ih (c:=c) h
   exact⟨p+1,M,by simpa using j,by simpa[j0,Xi] using D⟩
  | tn M=>
   cases c with
   | zero=>exact⟨0,M,rfl,by simp[j0,Xi]⟩
   | succ c=>
    obtain⟨p,M',j,D⟩:=ih (c:=c) (by simpa[Xi] using h)
    exact⟨p+1,M',by simpa using j,by simpa[j0,Xi] using D⟩
def Qj5 {p:Nat}{M:XX}(h:its[p]? = some (.tn M)):j0 its p<(Xi its).length:=(Xe.1 (QlK h).1).1
def GN.stable : ∀{ms:L_ XX} {B S:St},Qcf ms S=true->GN B S->∀n,GN (NC B (ms.take n)) S:=by
 intro ms
 induction ms with
 | nil=>intro B S _ h n;simpa[NC] using h
 | cons M ms ih=>
  intro B S j h n
  cases n with
  | zero=>exact h
  | succ n=>
   unfold Qcf at j
   rw[QH,XD,XD]at j
   refine ih (B:=M.run B) ?_ ⟨λt v hv=>?_,λp ob D=>?_⟩ n
   ·unfold Qcf
    rw[QH,XD,XD]
    exact⟨λp hp=>by have:=j.1 p hp;rw[Pj,QH]at this;exact this.2,λp hp=>by have:=j.2 p hp;rw[Pj,QH]at this;exact this.2⟩
   ·have:=j.1 (t,v) (YT hv)
    rw[Pj,QH]at this
    exact XX.keeps_look this.1 (h.1 t v hv)
   have:=j.2 (p,ob) (YT D)
   rw[Pj,QH,QH]at this
   exact XX.keepsO_look this.1.1 this.1.2 (h.2 p ob D)
def QaF : ∀{its:L_ It} {i:Nat} {x:DF} {fl D:Bool},its[i]? = some (.add x fl D)->x.d∈SJ its/\(x.ob.isSome=true->x.d∈QaE its):=by
 intro its
 induction its with
 | nil=>intro i x fl D h;simp at h
 | cons it its ih=>
  intro i x fl D h
  cases i with
  | zero=>
   simp at h;subst h
   refine⟨XQ,λj=>?_⟩
   rw[QaE];split
   ·exact XQ
   rename_i he;rw[he]at j;cases j
  | succ i=>
   obtain⟨a,b⟩:=ih (i:=i) (by simpa using h)
   cases it with
   | add y fl' nf'=>
    refine⟨Yf _ a,λj=>?_⟩
    rw[QaE];split
    ·exact Yf _ (b j)
    exact b j
   | tn M=>exact⟨a,b⟩
def QeC : ∀{its:L_ It},(SJ its).Nodup->∀{i k:Nat} {x y:DF} {fl j nf D:Bool},its[i]? = some (.add x fl nf)->its[k]? = some (.add y j D)->x.d=y.d->i=k:=by
 intro its
 induction its with
 | nil=>intro _ i k x y fl j nf D h;simp at h
 | cons it its ih=>
  intro hn i k x y fl j nf D hi hk e
  cases it with
  | tn M=>
   cases i with
   | zero=>simp at hi
   | succ i=>cases k with
    | zero=>simp at hk
    | succ k=>rw[ih hn (i:=i) (k:=k) (by simpa using hi) (by simpa using hk) e]
  | add z f g=>
   rw[SJ,Me]at hn
   cases i with
   | zero=>
    cases k with
    | zero=>rfl
    | succ k=>
     simp at hi;obtain⟨rfl,rfl,rfl⟩:=hi
     exact absurd (by rw[e];exact(QaF (i:=k) (by simpa using hk)).1) hn.1
   | succ i=>
    cases k with
    | zero=>
     simp at hk;obtain⟨rfl,rfl,rfl⟩:=hk
     exact absurd (by rw[<-e];exact(QaF (i:=i) (by simpa using hi)).1) hn.1
    | succ k=>rw[ih hn.2 (i:=i) (k:=k) (by simpa using hi) (by simpa using hk) e]
def QnU {M:XX}{B:St}{t:Nat}{v:V}(h:look (M.run B).fr t=some v):(∃u,look B.fr t=some u)\/∃u,M.put=some (t,u):=by
 have kill:∀{l:L_ Nat} {B:St} {v:V},look (B.killL l).fr t=some v->∃u,look B.fr t=some u:=by
  intro l
  induction l with
  | nil=>intro B v h;exact⟨v,h⟩
  | cons b l ih=>
   intro B v h
   obtain⟨u,j⟩:=ih h
   have j:look (CW b B.fr) t=some u:=j
   rw[OM]at j
   obtain⟨w,D,_⟩:=XT.1 j
   exact⟨w,D⟩
 unfold XX.run at h
 split at h
 ·rw[QhO]at h;exact .inl (kill h)
 rename_i d u hp
 by_cases e:d=t
 ·subst e;exact .inr ⟨u,hp⟩
 have h:look ((d,u)::((B.killL M.kills).sets M.sets).fr) t=some v:=h
 rw[Qv _ _ e,QhO]at h;exact .inl (kill h)
def QmH {M:XX}{B:St}{p:Nat}{ob:Ob}(h:look (M.run B).hp p=some ob):(∃u,look B.hp p=some u)\/p∈M.sets.map Prod.fst:=by
 have kill:∀{l:L_ Nat} {B:St} {ob:Ob},look (B.killL l).hp p=some ob->∃u,look B.hp p=some u:=by
  intro l
  induction l with
  | nil=>intro B ob h;exact⟨ob,h⟩
  | cons b l ih=>
   intro B ob h
   obtain⟨u,j⟩:=ih h
   have j:look (EB b B.hp) p=some u:=j
   rw[Im]at j
   split at j
   ·cases j
   obtain⟨w,hw,_⟩:=XT.1 j
   exact⟨w,hw⟩
 have D:∀{l:L_ (Nat×Ob)} {B:St} {ob:Ob},look (B.sets l).hp p=some ob->(∃u,look B.hp p=some u)\/p∈l.map Prod.fst:=by
  intro l
  induction l with
  | nil=>intro B ob h;exact .inl ⟨ob,h⟩
  | cons q l ih=>
   intro B ob h
   by_cases e:q.1=p
   ·exact .inr (by rw[EJ,e];exact XQ)
   have h:look ((B.sets l).set q.1 q.2).hp p=some ob:=h
   rw[St.look_set_other _ _ e]at h
   exact(ih h).imp id (Yf _)
 have h1:look ((B.killL M.kills).sets M.sets).hp p=some ob:=by
  unfold XX.run at h
  split at h<;>exact h
 rcases D h1 with⟨u,j⟩|h2
 ·exact .inl (kill j)
 exact .inr h2
def QnV : ∀{ms:L_ XX} {B:St} {t:Nat} {v:V},look (NC B ms).fr t=some v->(∃u,look B.fr t=some u)\/t∈HC ms:=by
 intro ms
 induction ms with
 | nil=>intro B t v h;exact .inl ⟨v,h⟩
 | cons M ms D=>
  intro B t v h
  rcases D h with⟨u,j⟩|h
  ·rcases QnU j with h | ⟨u,hp⟩
   ·exact .inl h
   refine .inr ?_;rw[HC,hp];exact XQ
  refine .inr ?_;rw[HC];split
  ·exact Yf _ h
  exact h
def QmI : ∀{ms:L_ XX} {B:St} {p:Nat} {ob:Ob},look (NC B ms).hp p=some ob->(∃u,look B.hp p=some u)\/p∈Qj3 ms:=by
 intro ms
 induction ms with
 | nil=>intro B p ob h;exact .inl ⟨ob,h⟩
 | cons M ms D=>
  intro B p ob h
  rcases D h with⟨u,j⟩|h
  ·rcases QmH j with h | h
   ·exact .inl h
   exact .inr (Qdb _ h)
  exact .inr (Qf9 _ h)
def QkU : ∀{ms:L_ XX} {n t:Nat},t∈HC (ms.take n)->t∈HC ms:=by
 intro ms
 induction ms with
 | nil=>intro n t h;simpa using h
 | cons M ms j=>
  intro n t h
  cases n with
  | zero=>simp[HC]at h
  | succ n=>
   rw[List.take_succ_cons,HC]at h
   rw[HC]
   split at h
   ·rcases Yt.1 h with rfl | h
    ·exact XQ
    exact Yf _ (j h)
   exact j h
def Qqs (base:St)(its:L_ It)(h:Array Bool)(σ:St):Prop:=∃j,j<=(Xi its).length/\(∀p M,its[p]? = some (.tn M)->(h[p]? = some true↔j0 its p<j))/\GN σ (NC base ((Xi its).take j))/\
 ∀i x fl D,its[i]? = some (.add x fl D)->(h[i]? = some true->ND σ x fl (((Xi its).take j).drop (j0 its i)))/\(h[i]? ≠ some true->x.ob.isSome=true->look σ.hp x.d=none)/\(fl=true->h[i]? = some true->HD (Xi its) its=true\/j<(Xi its).length->Qav σ x)
def Qpf (ops:Array Oper)(its:L_ It):Bool:=QaD its (its.length-1)&&(List.range (its.length-1)).all λi=>Bn ops 8 i (its.length-1)
def QhQ (ops:Array Oper)(ms:L_ XX)(its:L_ It):Bool:=HD ms its||(HD (ms.take (ms.length-1)) its&&Qpf ops its)
def QnW (its:L_ It)(i:Nat):Bool:=match its[i]? with
 | some (.add _ true false)=>true
 | _=>false
def Qpg (ops:Array Oper)(its:L_ It)(p:Nat):Bool:=QaD its p&&Nat.beq (j0 its p+1) (Xi its).length&&(List.range its.length).all λi=>!QnW its i||Bn ops 8 i p
def QhR (ops:Array Oper)(its:L_ It)(ms:L_ XX)(S:St):Bool:=Qcf ms S||(Qcf (ms.take (ms.length-1)) S&&(List.range its.length).any (Qpg ops its))
def AK.drawV {id:Nat}(hmix:P.follows .mixedOrders=true)(hlen:its.length=ops.size)(hord:QhJ ops=true)(hov:QnT ops its=true)(hap:Qj4 base its=true)(hsv:QlJ ops its=true)(hfk:QhQ ops (Xi its) its=true)(hsk:QhR ops its (Xi its) S=true)(hS:GN base S)
  (steps:∀i o it,ops[i]? = some o->its[i]? = some it->ZJ P C ops base S its i o it)
  (k:∀σ,GN σ (NC base (Xi its))->(∀i x fl nf,its[i]? = some (.add x fl nf)->ND σ x fl ((Xi its).drop (j0 its i)))->AK P C Q (.x .normal) ks σ):AK P C Q (.c (.region id ops true)) ks base:=by
 simp only[Qj4,QH,XD,GW]at hap
 obtain⟨⟨hnd,hd1⟩,hd2⟩:=hap
 have hnd:=KT.1 hnd
 have ord:∀i p it M,its[i]? = some it->its[p]? = some (.tn M)->p≠i->(∀x,it≠.add x true false)->(p<i->Bn ops 8 p i=true)/\(i<p->Bn ops 8 i p=true):=by
  intro i p it M hi hp hne hnf
  have hil:=(Xe.1 hi).1
  have hpl:=(Xe.1 hp).1
  unfold QnT at hov
  rw[XD]at hov
  have h1:=hov i (Au.2 hil)
  rw[XD]at h1
  have h2:=h1 p (Au.2 hpl)
  have hm:QaD its p=true:=by unfold QaD;rw[hp]
  have hb:Nat.beq p i=false:=by cases hb:Nat.beq p i with
   | true=>exact absurd (Yu hb) hne
   | false=>rfl
  rw[hm,hb,hi]at h2
  simp only[DW,RM]at h2
  have h3:(bif Nat.ble (p+1) i then Bn ops 8 p i else Bn ops 8 i p)=true:=by
   cases it with
   | add x fl nf=>cases fl with
    | true=>cases nf with
     | false=>exact absurd rfl (hnf x)
     | true=>exact h2
    | false=>exact h2
   | tn M=>exact h2
  refine⟨λh=>?_,λh=>?_⟩
  ·rw[show Nat.ble (p+1) i=true from Vl h]at h3;exact h3
  have:Nat.ble (p+1) i=false:=by cases hc:Nat.ble (p+1) i with
   | true=>have:=JR hc;omega
   | false=>rfl
  rw[this]at h3;exact h3
 have sets:∀(i p:Nat) (x:DF) (fl nf:Bool) (M:XX),its[i]? = some (.add x fl nf)->its[p]? = some (.tn M)->x.ob.isSome=true->x.d∈M.sets.map Prod.fst->Bn ops 8 i p=true:=by
  intro i p x fl nf M hi hp hob hmem
  have hil:=(Xe.1 hi).1
  have hpl:=(Xe.1 hp).1
  unfold QlJ at hsv
  rw[XD]at hsv
  have h1:=hsv i (Au.2 hil)
  rw[XD]at h1
  have h2:=h1 p (Au.2 hpl)
  rw[hi,hp]at h2
  dsimp only at h2
  rw[HA.2 hmem]at h2
  have:x.ob.isNone=false:=by cases hx:x.ob with
   | none=>rw[hx]at hob;cases hob
   | some=>rfl
  rw[this]at h2
  simpa using h2
 have memSets:∀{ms:L_ XX} {d:Nat},d∈Qj3 ms->∃(c:Nat) (M:XX),ms[c]? = some M/\d∈M.sets.map Prod.fst:=by
  intro ms
  induction ms with
  | nil=>intro d h;cases h
  | cons N ms ih=>
   intro d h
   rcases YM.1 h with h | h
   ·exact⟨0,N,rfl,h⟩
   obtain⟨c,M,h1,h2⟩:=ih h;exact⟨c+1,M,by simpa using h1,h2⟩
 have all:∀{l:L_ It} {ms:L_ XX},HD ms l=true->∀{q:Nat} {y:DF} {nf:Bool},l[q]? = some (.add y true nf)->ms.all (QjD y)=true:=by
  intro l
  induction l with
  | nil=>intro ms _ q y nf h;simp at h
  | cons it l ih=>
   intro ms h q y nf hq
   cases it with
   | add z f g=>
    rw[HD,QH]at h
    cases q with
    | zero=>simp at hq;obtain⟨rfl,rfl,rfl⟩:=hq;simpa using h.1
    | succ q=>exact ih h.2 (by simpa using hq)
   | tn M=>
    cases q with
    | zero=>simp at hq
    | succ q=>exact ih h (by simpa using hq)
 have lst:HD (Xi its) its=true\/(HD ((Xi its).take ((Xi its).length-1)) its=true/\(∃M,its[its.length-1]? = some (.tn M)/\j0 its (its.length-1)+1=(Xi its).length)/\∀i,i<its.length-1->Bn ops 8 i (its.length-1)=true):=by
  unfold QhQ at hfk
  rw[Kh,QH]at hfk
  refine hfk.imp_right λh=>⟨h.1,?_⟩
  have h2:=h.2
  unfold Qpf at h2
  rw[QH,XD]at h2
  obtain⟨p1,p2⟩:=h2
  refine⟨?_,λi hi=>p2 i (Au.2 hi)⟩
  unfold QaD at p1
  split at p1
  ·rename_i M hM
   refine⟨M,hM,?_⟩
   have h3:=QmG hM
   have hl:=(Xe.1 hM).1
   have h4:j0 its its.length=(Xi its).length:=by unfold j0;rw[FQ]
   rw[show its.length-1+1=its.length by omega]at h3
   omega
  cases p1
 refine AK.regionInv (Qqs base its) hmix ?_ hord ?_ ?_
 ·intro D σ i o hs hd hi ho ⟨j,hj,hmu,hsub,hadd⟩
  obtain⟨o',ho',hl,hdeps⟩:=(Nl hs).1 hi
  rw[ho]at ho';cases ho'
  have hio:i<ops.size:=(Cj.1 ho).1
  have hil:i<its.length:=by omega
  have hin:i<D.size:=by omega
  obtain⟨it,hit⟩:∃it,its[i]? = some it:=⟨_,Qy hil⟩
  have hnl:D[i]? ≠ some true:=by rw[hl];simp
  have hst:=steps i o it ho hit
  have depsL:∀{q:Nat},Lc o q=true->D[q]? = some true:=λhdep=>by
   simp only[Lc,GX,QH]at hdep
   obtain⟨e,he,hb,hon⟩:=hdep
   have:=hdeps e (Qey.1 he) hb
   rwa[Yu hon]at this
  have stage:(∀x,it≠.add x true false)->j=j0 its i:=by
   intro hnf
   apply Nat.le_antisymm
   ·rcases Wv (j0 its i) j with hlt | h
    ·obtain⟨p,M,hp,hpj⟩:=Qdi (its:=its) (c:=j0 its i) (by omega)
     have hpl:D[p]? = some true:=(hmu p M hp).2 (by omega)
     rcases Nat.lt_trichotomy p i with h | h | h
     ·have:=QlM hp h;omega
     ·subst h;exact absurd hpl hnl
     have hm:=(ord i p it M hit hp (by omega) hnf).2 h
     exact absurd (BF hd 8 hm hpl) hnl
    exact h
   rcases Nat.eq_zero_or_pos (j0 its i)with h | h
   ·omega
   have hle:j0 its i<=(Xi its).length:=by
    have h1:=Qgp (its:=its) (show i<=its.length by omega)
    have h2:j0 its its.length=(Xi its).length:=by unfold j0;rw[FQ]
    omega
   obtain⟨p,M,hp,hpj⟩:=Qdi (its:=its) (c:=j0 its i-1) (by omega)
   have hpi:p<i:=by
    rcases Nat.lt_trichotomy p i with h' | h' | h'
    ·exact h'
    ·subst h';omega
    have:=Qgp (its:=its) (Nat.le_of_lt h');omega
   have hm:=(ord i p it M hit hp (by omega) hnf).1 hpi
   have:=(hmu p M hp).1 (Qeq hs hd hm hi)
   omega
  have setL:∀q,(D.setIfInBounds i true)[q]? = some true↔q=i\/D[q]? = some true:=λq=>by
   by_cases e:i=q
   ·subst e;simp[Zf,hin]
   rw[QjI e];simp[Ne.symm e]
  cases it with
  | tn M=>
   have hjj:=stage λx e=>by cases e
   subst hjj
   have hM:=QlK hit
   have hos:Jw P C ops o σ (M.run σ):=hst σ hsub λq y fl nf hq hdep=>(hadd q y fl nf hq).1 (depsL hdep)
   have flt:∀{q:Nat} {y:DF} {fl nf:Bool},fl=true->D[q]? = some true->its[q]? = some (.add y fl nf)->HD (Xi its) its=true\/j0 its i+1<(Xi its).length->Qav (M.run σ) y:=by
    intro q y fl nf hfl hql hq hz
    subst hfl
    have h1:=(hadd q y true nf hq).2.2 rfl hql (hz.imp_right λh=>by omega)
    refine QlL ?_ h1
    rcases lst with h | ⟨h,_,_⟩
    ·exact XD.1 (all h hq) M (XF hM.1)
    rcases hz with hz | hz
    ·exact XD.1 (all hz hq) M (XF hM.1)
    refine XD.1 (all h hq) M (XF (i:=j0 its i) ?_)
    rw[List.getElem?_take_of_lt (by omega)];exact hM.1
   refine⟨_,hos,j0 its i+1,by have:=Qj5 hit;omega,λp M' hp=>?_,?_,λq y fl nf hq=>⟨λhql=>?_,λhql hob=>?_,λhfl hql hz=>?_⟩⟩
   ·rw[setL]
    constructor
    ·rintro (rfl | h)
     ·omega
     have:=(hmu p M' hp).1 h;omega
    intro h
    rcases Wv (j0 its p) (j0 its i)with h1 | h1
    ·exact .inr ((hmu p M' hp).2 h1)
    left
    rcases Nat.lt_trichotomy p i with h' | h' | h'
    ·have:=QlM hp h';omega
    ·exact h'
    have:=QlM hit h';omega
   ·rw[hM.2,Qgo];exact hsub.run M
   ·rcases(setL q).1 hql with rfl | hql
    ·rw[hit]at hq;cases hq
    rcases Wv (j0 its i) (j0 its q)with hlt | hle
    ·cases fl with
     | true=>
      refine ND.of (flt rfl hql hq ?_)
      rcases lst with h | ⟨_,⟨M',hp,hpj⟩,_⟩
      ·exact .inl h
      right
      have hqi:q<=its.length-1:=by have:=(Xe.1 hq).1;omega
      have:=Qgp (its:=its) hqi
      omega
     | false=>
      exfalso
      have hiq:i<q:=by
       rcases Wv i q with h | h
       ·exact h
       have:=Qgp (its:=its) h;omega
      have hm:=(ord q i _ M hq hit (by omega) (λx e=>by cases e)).1 hiq
      exact absurd (BF hd 8 hm hql) hnl
    rw[hM.2,List.drop_append_of_le_length (by simp;have:=Qj5 hit;omega)]
    exact((hadd q y fl nf hq).1 hql).run
   ·have hqi:q≠i:=λe=>by subst e;rw[hit]at hq;cases hq
    have hql':D[q]? ≠ some true:=λh=>hql ((setL q).2 (.inr h))
    refine XX.none_look ?_ ((hadd q y fl nf hq).2.1 hql' hob)
    rw[XD]
    intro r hr
    cases hb:Nat.beq r.1 y.d with
    | false=>rfl
    | true=>
     have hm:=sets q i y fl nf M hq hit hob (by rw[<-Yu hb];exact List.mem_map_of_mem hr)
     exact absurd (Qeq hs hd hm hi) hql'
   refine flt hfl ((setL q).1 hql |>.resolve_left λe=>by subst e;rw[hit]at hq;cases hq) hq hz
  | add x fl nf=>
   have hfresh:x.ob.isSome=true->look σ.hp x.d=none:=(hadd i x fl nf hit).2.1 hnl
   have hos:Jw P C ops o σ (σ.addF x):=by
    have hB:¬(fl=true/\nf=false)->(∀σ,GN σ (NC base ((Xi its).take (j0 its i)))->(∀k y fl nf,its[k]? = some (.add y fl nf)->Lc o k=true->ND σ y fl (((Xi its).take (j0 its i)).drop (j0 its k)))->(x.ob.isSome=true->look σ.hp x.d=none)->Jw P C ops o σ (σ.addF x))->Jw P C ops o σ (σ.addF x):=λhne hst=>by
     have hjj:=stage λy e=>by cases e;exact hne ⟨rfl,rfl⟩
     subst hjj
     exact hst σ hsub (λq y fl nf hq hdep=>(hadd q y fl nf hq).1 (depsL hdep)) hfresh
    cases fl with
    | true=>cases nf with
     | false=>
      have h1:GN base S:=hS
      have hZ:HD (Xi its) its=true\/j<(Xi its).length:=by
       refine lst.imp_right λ⟨_,⟨M,hp,hpj⟩,hall⟩=>?_
       rcases Wv j (Xi its).length with h | h
       ·exact h
       exfalso
       have hpl:=(hmu _ M hp).2 (by omega)
       have hne:i≠its.length-1:=λe=>by rw[<-e,hit]at hp;cases hp
       exact absurd (BF hd 8 (hall i (by omega)) hpl) hnl
      have h2:GN (NC base ((Xi its).take j)) S:=by
       unfold QhR at hsk
       rw[Kh]at hsk
       rcases hsk with hsk | hsk
       ·exact GN.stable hsk h1 j
       rw[QH,GX]at hsk
       obtain⟨hs1,p,_,hp⟩:=hsk
       unfold Qpg at hp
       simp only[QH]at hp
       obtain⟨⟨p1,p2⟩,p3⟩:=hp
       have hjm:j<=(Xi its).length-1:=by
        rcases Wv ((Xi its).length-1) j with hlt | h
        ·exfalso
         obtain⟨M,hM⟩:∃M,its[p]? = some (.tn M):=by
          unfold QaD at p1
          split at p1
          ·exact⟨_,‹_›⟩
          cases p1
         have p2:=Yu p2
         have hpl:=(hmu p M hM).2 (by omega)
         have h3:=XD.1 p3 i (Au.2 hil)
         have hf:QnW its i=true:=by unfold QnW;rw[hit]
         rw[hf]at h3
         exact absurd (BF hd 8 h3 hpl) hnl
        exact h
       have h4:=GN.stable hs1 h1 j
       rwa[List.take_take,LG hjm]at h4
      exact hst σ ⟨λt v h=>hsub.1 t v (h2.1 t v h),λp ob h=>hsub.2 p ob (h2.2 p ob h)⟩ (λq y nf hq hdep=>(hadd q y true nf hq).2.2 rfl (depsL hdep) hZ) hfresh
     | true=>exact hB (λe=>by cases e.2) hst
    | false=>exact hB (λe=>by cases e.1) hst
   obtain⟨hmd,hmo⟩:=QaF hit
   have frK:∀t v,t≠x.d->look σ.fr t=some v->look (σ.addF x).fr t=some v:=by
    intro t v hne h
    unfold St.addF
    split
    ·show look ((x.d,x.v)::σ.fr) t=some v
     rw[Qv _ _ (Ne.symm hne)];exact h
    show look ((x.d,x.v)::σ.fr) t=some v
    rw[Qv _ _ (Ne.symm hne)];exact h
   have hpK:∀p,(p≠x.d\/x.ob=none)->look (σ.addF x).hp p=look σ.hp p:=by
    intro p hne
    unfold St.addF
    split
    ·rfl
    rename_i ob hob
    rcases hne with hne | hne
    ·exact σ.look_set_other _ (Ne.symm hne)
    rw[hob]at hne;cases hne
   refine⟨_,hos,j,hj,λp M hp=>?_,⟨λt v h=>?_,λp ob h=>?_⟩,λq y fl' nf' hq=>⟨λhql=>?_,λhql hob=>?_,λhfl hql hz=>?_⟩⟩
   ·rw[setL,<-hmu p M hp]
    have:p≠i:=λe=>by subst e;rw[hit]at hp;cases hp
    simp[this]
   ·refine frK t v (λe=>?_) (hsub.1 t v h)
    subst e
    have h1:=hd1 _ hmd
    rcases QnV h with⟨u,hu⟩|h2
    ·rw[SD hu]at h1;cases h1.1
    rw[HA.2 (QkU h2)]at h1;cases h1.2
   ·have hne:p≠x.d\/x.ob=none:=by
     cases hob:x.ob with
     | none=>exact .inr rfl
     | some ob'=>
      refine .inl λe=>?_
      subst e
      have hob':x.ob.isSome=true:=by rw[hob];rfl
      have h1:=hd2 _ (hmo hob')
      rcases QmI h with⟨u,hu⟩|h2
      ·rw[SD hu]at h1;cases h1
      obtain⟨c,M,h3,h4⟩:=memSets h2
      have hc:c<j:=by
       have:=(Xe.1 h3).1
       simp at this;omega
      have h3':(Xi its)[c]? = some M:=by rw[List.getElem?_take_of_lt hc]at h3;exact h3
      obtain⟨p',M',hp',hpc⟩:=Qdi (its:=its) (c:=c) (Xe.1 h3').1
      have h5:=(QlK hp').1
      rw[hpc,h3']at h5;cases h5
      have hm:=sets i p' x fl nf M hit hp' hob' h4
      exact absurd (BF hd 8 hm ((hmu p' M hp').2 (by omega))) hnl
    rw[hpK p hne];exact hsub.2 p ob h
   ·by_cases e:q=i
    ·subst e
     rw[hit]at hq;cases hq
     refine ND.of ⟨?_,λob hob=>?_⟩
     ·unfold St.addF
      split<;>exact QA _ _ _
     unfold St.addF
     rw[hob];exact QA _ _ _
    have hql':D[q]? = some true:=((setL q).1 hql).resolve_left e
    obtain⟨h1,h2⟩:=(hadd q y fl' nf' hq).1 hql'
    have hne:y.d≠x.d:=λh=>e (QeC hnd hq hit h)
    exact⟨λhal=>frK _ _ hne (h1 hal),λhal ob hob=>by rw[hpK _ (.inl hne)];exact h2 hal ob hob⟩
   ·have e:q≠i:=λe=>hql ((setL q).2 (.inl e))
    have hql':D[q]? ≠ some true:=λh=>hql ((setL q).2 (.inr h))
    have hne:y.d≠x.d:=λh=>e (QeC hnd hq hit h)
    rw[hpK _ (.inl hne)];exact(hadd q y fl' nf' hq).2.1 hql' hob
   by_cases e:q=i
   ·subst e
    rw[hit]at hq;cases hq
    refine⟨?_,λob hob=>?_⟩
    ·unfold St.addF
     split<;>exact QA _ _ _
    unfold St.addF
    rw[hob];exact QA _ _ _
   have hql':D[q]? = some true:=((setL q).1 hql).resolve_left e
   obtain⟨h1,h2⟩:=(hadd q y fl' nf' hq).2.2 hfl hql' hz
   have hne:y.d≠x.d:=λh=>e (QeC hnd hq hit h)
   exact⟨frK _ _ hne h1,λob hob=>by rw[hpK _ (.inl hne)];exact h2 ob hob⟩
 ·refine⟨0,LH _,λp M _=>by simp[Array.getElem?_replicate],⟨λ_ _ h=>h,λ_ _ h=>h⟩,λi x fl nf hi=>⟨λh=>by simp[Array.getElem?_replicate]at h,λ_ hob=>?_,λ_ h=>by simp[Array.getElem?_replicate]at h⟩⟩
  have h1:=hd2 _ ((QaF hi).2 hob)
  cases h:look base.hp x.d with
  | none=>rfl
  | some ob=>rw[SD h]at h1;cases h1
 intro D σ hs hall ⟨j,hj,hmu,hsub,hadd⟩
 have hjt:j=(Xi its).length:=by
  rcases Wv j (Xi its).length with h | h
  ·obtain⟨p,M,hp,hpj⟩:=Qdi (its:=its) h
   have:=(hmu p M hp).1 (hall p (by have:=(Xe.1 hp).1;omega))
   omega
  omega
 subst hjt
 rw[FQ]at hsub
 refine k σ hsub λi x fl nf hi=>?_
 have:=(hadd i x fl nf hi).1 (hall i (by have:=(Xe.1 hi).1;omega))
 rwa[FQ]at this
end
inductive MD where
 | s
 | st (r:List V) (rs:List (List V))
 | app (rs:List (List V)) (m:Nat)
 | any (M:XX)
 | cm (en:Ent) (M N:List (Nat×Nat)) (dead:List Nat) (ms:List Ev) (outs:List (Nat×Ob)) (r:V) (same:List Nat)
inductive Dw where
 | a (h:KU) (sv:Option (List (Option Nat)×V)) (fl:Bool) (nf:Bool:=false)
 | m (md:MD)
def QnX (P:Program)(T:Ea)(f:Operand->O_ V)(hp:Nat->O_ Ob)(c:Call):Ent->O_ (Nat×L_ V×Prop)
 | .fn=>match c.callee with
  | .value (.func g)=>bif Xz T.en g then match Vr f c.args.toList with
   | some vs=>some (g,vs,True)
   | none=>none
   else none
  | _=>none
 | .clo=>match c.callee with
  | .value x=>match f x with
   | some (.clo (.func g) fs h)=>bif Xz T.en g then match Vr f c.args.toList with
    | some vs=>some (g,fs++(vs++h),True)
    | none=>none
    else none
   | _=>none
  | _=>none
 | .me g=>match c.callee with
  | .invoke x name=>match f x with
   | some (.ifc t u)=>bif Xz T.en g then match Vr f c.args.toList with
    | some vs=>some (g,u::vs,(Nz P t name=some (g,true)/\QjP P t=true)\/(Nz P t name=some (g,false)/\Qb7 P t=true))
    | none=>none
    else none
   | _=>none
  | _=>none
 | .mv g e=>match c.callee with
  | .invoke x name=>match f x with
   | some (.ifc t (.loc b 0 off))=>match hp b with
    | some (.var h)=>match h[off]? with
     | some r=>bif Xz T.en g then match Vr f c.args.toList with
      | some vs=>some (g,r::vs,Nz P t name=some (g,false)/\Qgj P t e=true/\AS P e=some false)
      | none=>none
      else none
     | none=>none
    | _=>none
   | _=>none
  | _=>none
def QlN {P:Program}{C:Xq}{T:Ea}{f:Operand->O_ V}{hp:Nat->O_ Ob}{o:Oper}{c:Call}{en:Ent}{g:Nat}{vs:L_ V}{ψ:Prop}{σ:St}(ok:De P T)(ho:o.op=.call c)(e:QnX P T f hp c en=some (g,vs,ψ))(hφ:ψ)
  (D:∀x u,f x=some u->σ.opd x=some u) (h2:∀b u,hp b=some u->look σ.hp b=some u):YZ P C o σ g vs:=by
 obtain⟨ce,ags,ts⟩:=c
 unfold QnX at e
 split at e
 ·split at e
  ·rename_i f' h
   dsimp only at h;subst h
   replace e:=XJ e;obtain⟨j,e⟩:=e
   split at e
   ·rename_i vs' hv;cases e;exact YZ.fn ho (ok.en j) (Um D hv)
   cases e
  cases e
 ·split at e
  ·rename_i x h
   dsimp only at h;subst h
   split at e
   ·rename_i f' fs cs hx
    replace e:=XJ e;obtain⟨j,e⟩:=e
    split at e
    ·rename_i vs' hv;cases e;exact YZ.clo ho (D _ _ hx) (ok.en j) (Um D hv)
    cases e
   cases e
  cases e
 ·split at e
  ·rename_i x name h
   dsimp only at h;subst h
   split at e
   ·rename_i t u hx
    replace e:=XJ e;obtain⟨j,e⟩:=e
    split at e
    ·rename_i vs' hv;cases e;exact YZ.meth (r:=u) ho (D _ _ hx) hφ (ok.en j) (Um D hv)
    cases e
   cases e
  cases e
 split at e
 ·rename_i x name h
  dsimp only at h;subst h
  split at e
  ·rename_i t b off hx
   split at e
   ·rename_i cs hb
    split at e
    ·rename_i r hr0
     replace e:=XJ e;obtain⟨j,e⟩:=e
     split at e
     ·rename_i vs' hv;cases e;exact YZ.methV ho (D _ _ hx) hφ.1 hφ.2.1 hφ.2.2 (h2 _ _ hb) hr0 (ok.en j) (Um D hv)
     cases e
    cases e
   cases e
  cases e
 cases e
def QmJ {bk:Nat->O_ Nat}{hp D:Nat->O_ Ob}(h:∀b u,hp b=some u->D b=some u):∀{M:L_ (Nat×Nat)} {l:L_ (Nat×Ob)},Fy bk hp M=some l->Fy bk D M=some l:=by
 intro M
 induction M with
 | nil=>intro l e;exact e
 | cons p M ih=>
  obtain⟨d,s⟩:=p
  intro l e
  rw[Fy]at e ⊢
  split at e
  ·rename_i ob hob
   split at e
   ·rename_i ob' j
    split at e
    ·rename_i l' hl
     simp only[h _ _ hob,j,ih hl];exact e
    cases e
   cases e
  cases e
def QlO {σ:St}{M N:L_ (Nat×Nat)}{dead:L_ Nat}{outs:L_ (Nat×Ob)}(h:Du ⟨[],N.map λp=>(p.1,Ob.itr0)⟩ M N dead outs=true):Du σ M N dead outs=true:=by
 simp only[Du,QH,XD]at h ⊢
 obtain⟨⟨h1,h2⟩,j⟩:=h
 refine⟨⟨h1,h2⟩,λp hp=>⟨⟨?_,(j p hp).1.2⟩,(j p hp).2⟩⟩
 have hn:∀{l:L_ (Nat×Nat)},p∈l->(look (l.map λp=>(p.1,Ob.itr0)) p.1).isNone=false:=by
  intro l hp
  induction l with
  | nil=>cases hp
  | cons q l ih=>
   show(look ((q.1,Ob.itr0)::l.map λp=>(p.1,Ob.itr0)) p.1).isNone=false
   by_cases e:q.1=p.1
   ·rw[e,QA];rfl
   rw[Qv _ _ e]
   refine ih ?_
   rcases Yt.1 hp with h | h
   ·exact absurd (congrArg Prod.fst h).symm e
   exact h
 have D:=(j p hp).1.1
 rw[hn hp,Vh]at D
 rw[D];rfl
def QaG {σ:St}(dead:L_ Nat):∀(l:L_ (Nat×Ob)),(σ.killL dead).sets l=σ.after dead l:=by
 intro l
 induction l with
 | nil=>rfl
 | cons p l h=>rw[St.sets,h];rfl
def QlP (hp:Nat->O_ Ob)(h:L_ (Nat×Ob)):L_ Nat->Prop
 | []=>True
 | b::r=>hp b=look h b/\QlP hp h r
def QmK {hp:Nat->O_ Ob}{j:L_ (Nat×Ob)}:∀{l:L_ Nat},QlP hp j l->∀b,Xz l b=true->hp b=look j b:=by
 intro l
 induction l with
 | nil=>intro _ b h;cases h
 | cons a l ih=>
  intro h b D
  rw[Xz]at D
  cases e:Nat.beq a b with
  | true=>rw[<-Yu e];exact h.1
  | false=>rw[e]at D;exact ih h.2 b (by simpa using D)
def QkV {j:L_ Nat}:∀{l:L_ (Nat×Ob)} {b:Nat},look (l.filter λp=>!(Xz j p.1)) b=if Xz j b=true then none else look l b:=by
 intro l
 induction l with
 | nil=>intro b;simp[look]
 | cons p l D=>
  intro b
  rw[Mb]
  by_cases e:p.1=b
  ·subst e
   cases h:Xz j p.1 with
   | true=>
    simp only[DW,Bool.false_eq_true,if_false]
    rw[D,h];simp
   | false=>
    simp only[Bool.not_false,if_true,Bool.false_eq_true,if_false]
    obtain⟨k,v⟩:=p
    rw[QA,QA]
  cases h:Xz j p.1 with
  | true=>
   simp only[DW,Bool.false_eq_true,if_false]
   rw[D,Qv (k:=p.1) p.2 l e]
  | false=>
   simp only[Bool.not_false,if_true]
   rw[Qv (k:=p.1) p.2 _ e,D,Qv (k:=p.1) p.2 l e]
def R.congrHp {C:Xq}{σ σ':St}(hf:σ'.fr=σ.fr)(j:∀o,look σ'.hp o=look σ.hp o){a:Act}{w:World}(hR:R C σ a w):R C σ' a w:=by
 obtain⟨φ,h⟩:=hR
 exact⟨φ,h.os,h.tape,h.output,h.size,h.kept,h.inj,λo B hB=>by rw[j];exact h.dom o B hB,h.lt,h.new,⟨h.stay.1,λo ob B h1 h2 h3=>h.stay.2 o ob B h1 (by rw[<-j];exact h2) h3⟩,h.tmps,h.defers,λt v hv=>h.frame t v (by rw[<-hf];exact hv),λo ob D=>h.heap o ob (by rw[<-j];exact D)⟩
def mu1 (P:Program)(C:Xq)(T:Ea)(n:Nat)(md:MD)(o:Oper)(f:Operand->O_ V)(hp:Nat->O_ Ob):O_ (XX×O_ Prop):=match md with
 | .cm en M N dead ms outs r j=>match o.dst with
  | some d=>match o.op with
   | .call c=>bif Du ⟨[],N.map λp=>(p.1,Ob.itr0)⟩ M N dead outs&&BD (M.map Prod.fst)&&BD (N.map Prod.fst)&&Nat.ble (d+1) n then match QnX P T f hp c en with
    | some (g,vs,ψ)=>match NB (DO M) ms vs with
     | some us=>match Fy (DO M) hp M with
      | some hsC=>match Fy (DO N) (look outs) N with
       | some D=>match trV (DO N) r with
        | some r'=>match j with
         | []=>some (⟨dead,D,some (d,r')⟩,some (ψ/\QP P g us hsC (Gives r outs)))
         | _=>match dead with
          | []=>some (⟨[],D.filter (λp=>!(Xz j p.1)),some (d,r')⟩,some ((ψ/\QP P g us hsC (Gives r outs))/\QlP hp D j))
          | _=>none
        | none=>none
       | none=>none
      | none=>none
     | none=>none
    | none=>none
    else none
   | _=>none
  | none=>none
 | .any M=>some (M,some (∀σ:St,(∀x u,f x=some u->σ.opd x=some u)->(∀b u,hp b=some u->look σ.hp b=some u)->Ql P C o σ (M.run σ)))
 | .s=>match o.dst with
  | some d=>match o.op with
   | .assign x=>match f x with
    | some v=>bif Nat.ble (d+1) n then some (⟨[],[],some (d,v)⟩,none)else none
    | none=>none
   | .move x=>match f x with
    | some v=>bif Nat.ble (d+1) n then some (⟨[],[],some (d,v)⟩,none)else none
    | none=>none
   | _=>none
  | none=>match o.op with
   | .store Tx x y=>match f x with
    | some (.loc b i off)=>match f y with
     | some v=>match hp b with
      | some (.var cs)=>match i with
       | 0=>match look T.sz Tx with
        | some k=>bif v.isV&&Nat.beq v.cells.length k&&v.cells.all V.one&&Nat.ble (off+k) cs.length then some (⟨[],[(b,.var (KA cs off v.cells))],none⟩,none)else none
        | none=>none
       | _=>none
      | _=>none
     | none=>none
    | _=>none
   | _=>none
 | .st r h=>match o.dst with
  | some _=>none
  | none=>match o.op with
   | .store Tx x y=>match f x with
    | some (.loc b i off)=>match f y with
     | some v=>match hp b with
      | some (.arr z rs)=>match look T.sz Tx with
       | some k=>bif v.isV&&Nat.beq v.cells.length k&&v.cells.all V.one&&v.cells.all V.dat&&Nat.ble (off+k) z then some (⟨[],[(b,.arr z h)],none⟩,some (rs[i]? = some r/\rs.set i (KA r off v.cells)=h))else none
       | none=>none
      | _=>none
     | none=>none
    | _=>none
   | _=>none
 | .app h m=>match o.dst with
  | some d=>match o.op with
   | .call c=>match c.callee with
    | .builtin .append=>match c.args.toList with
     | [x,y]=>match c.argTypes.toList with
      | [Tx,Ty]=>match f x with
       | some (.own b k)=>match f y with
        | some v=>match hp b with
         | some (.arr z rs)=>match look T.es Tx with
          | some (e,z',by_)=>match look T.zv e with
           | some zs=>bif (look T.es Ty).isSome&&Nat.ble (d+1) n&&!(Nat.ble 617 b)&&Nat.beq z z'&&Nat.beq zs.length z&&!(Nat.beq z 0)&&Nat.ble by_ 32768 then match v with
            | .sl z'' us=>bif Nat.beq z z'' then some (⟨[b],[(b,.arr z h)],some (d,.own b m)⟩,some (rs.length=k/\decide (k+us.length<=4294967296)=true/\rs++us=h/\k+us.length=m))else none
            | _=>none
            else none
           | none=>none
          | none=>none
         | _=>none
        | none=>none
       | _=>none
      | _=>none
     | _=>none
    | _=>none
   | _=>none
  | none=>none
def Pp (obj:Bool)(o:Oper)(t:Nat)(fo:Bool)(ms:L_ XX):L_ (It×Nat)->Nat->O_ DF
 | (.add x fl _,j)::r,i+1=>bif Nat.beq x.d t&&Lc o i&&(bif fo then fl else bif obj then Zm x fl (ms.drop j)else alv x fl (ms.drop j))then some x else Pp obj o t fo ms r i
 | (.tn _,_)::r,i+1=>Pp obj o t fo ms r i
 | _,_=>none
def SK (B:St)(fo:Bool)(ms:L_ XX)(h:L_ (It×Nat))(i:Nat)(o:Oper):Operand->O_ V
 | .tmp t=>match look B.fr t with
  | some v=>some v
  | none=>match Pp false o t fo ms h i with
   | some x=>some x.v
   | none=>none
 | x=>B.opd x
def QaH (B:St)(fo:Bool)(ms:L_ XX)(h:L_ (It×Nat))(i:Nat)(o:Oper)(b:Nat):O_ Ob:=match look B.hp b with
 | some ob=>some ob
 | none=>match Pp true o b fo ms h i with
  | some x=>x.ob
  | none=>none
structure Dr where
 ri:List (It×Nat)
 ms:List XX
 B:St
 φ:Prop
def Uo (P:Program)(C:Xq)(T:Ea)(n:Nat)(ops:Array Oper)(S:St):L_ Dw->L_ Oper->Nat->L_ (It×Nat)->L_ XX->St->Prop->O_ Dr
 | [],_,_,j,ms,B,φ=>some ⟨j,ms,B,φ⟩
 | .a h sv fl D::ds,o::l,i,j,ms,B,φ=>match EM ops o (λt=>SK (bif fl&&!D then S else B) (fl&&!D) ms j i o (.tmp t))with
  | some true=>match o.dst with
   | some d=>bif Nat.ble (d+1) n then match ev1 P C T h o d (SK (bif fl&&!D then S else B) (fl&&!D) ms j i o) (QaH (bif fl&&!D then S else B) (fl&&!D) ms j i o)with
    | some ⟨v,ob,q⟩=>match sv with
     | none=>Uo P C T n ops S ds l (i+1) ((.add ⟨d,v,ob⟩ fl D,ms.length)::j) ms B (SF φ q)
     | some (mm,u)=>Uo P C T n ops S ds l (i+1) ((.add ⟨d,u,ob⟩ fl D,ms.length)::j) ms B (SF φ q/\v.denil mm=u)
    | none=>none
    else none
   | none=>none
  | some false=>match o.dst with
   | some d=>bif Nat.ble (d+1) n then Uo P C T n ops S ds l (i+1) ((.add ⟨d,.lit undef,none⟩ fl D,ms.length)::j) ms B φ else none
   | none=>none
  | none=>none
 | .m md::ds,o::l,i,j,ms,B,φ=>match EM ops o (λt=>SK B false ms j i o (.tmp t))with
  | some true=>match mu1 P C T n md o (SK B false ms j i o) (QaH B false ms j i o)with
   | some (M,q)=>Uo P C T n ops S ds l (i+1) ((.tn M,ms.length)::j) (ms++[M]) (M.run B) (SF φ q)
   | none=>none
  | _=>none
 | _::_,[],_,_,_,_,_=>none
def Ym (h:L_ (It×Nat)):L_ It:=(h.map Prod.fst).reverse
section
variable {P:Program}{C:Xq}{T:Ea}{Q:Exit->St->Prop}{n:Nat}{ops:Array Oper}{base S:St}{ks:L_ Fr}
def QiO {md:MD}{o:Oper}{f:Operand->O_ V}{hp:Nat->O_ Ob}{M:XX}{q:O_ Prop}{σ:St}(ok:De P T)(hN:Jo P C n)(e:mu1 P C T n md o f hp=some (M,q))(hq:match q with | none=>True | some p=>p)
  (h1:∀x u,f x=some u->σ.opd x=some u) (h2:∀b u,hp b=some u->look σ.hp b=some u):Ql P C o σ (M.run σ):=by
 have hn:=hN.n
 have hpg:=hN.g
 unfold mu1 at e
 cases md with
 | any M0=>cases e;exact hq σ h1 h2
 | cm en M0 N dead ms outs r same=>
  dsimp only at e
  split at e
  ·rename_i d hd
   split at e
   ·rename_i c D
    replace e:=XJ e;obtain⟨j,e⟩:=e
    simp only[QH]at j
    obtain⟨⟨⟨g1,g2⟩,g3⟩,g4⟩:=j
    rw[<-hn]at g4
    have g1:=QlO (σ:=σ) g1
    have g2:=KT.1 g2
    have g3:=KT.1 g3
    have inj:Ck M0=true/\Ck N=true:=by
     simp only[Du,QH]at g1
     exact⟨g1.1.1.1,g1.1.1.2⟩
    have mM:∀a b,DO M0 a=some b->look M0 b=some a:=λa b h=>JB inj.1 (Ac h) g2
    have mN:∀a b,DO N a=some b->look N b=some a:=λa b h=>JB inj.2 (Ac h) g3
    split at e
    ·rename_i g vs ψ hent
     split at e
     ·rename_i us hus
      split at e
      ·rename_i hsC hC
       split at e
       ·rename_i hsN hN
        split at e
        ·rename_i r' hr
         have call:ψ/\QP P g us hsC (Gives r outs)->Ql P C o σ ((σ.after dead hsN).put d r'):=λhq=>
          Ql.callM (g:=false) (QlN (C:=C) ok D hent hq.1 h1 h2) hd g4 hpg g1 g2 (Ft mM hus) (WE mM (QmJ h2 hC)) hq.2 (WE mN hN) (Nm mN hr)
         split at e
         ·cases e
          unfold XX.run
          dsimp only
          rw[QaG];exact call hq
         split at e
         ·cases e
          obtain⟨hq1,hq2⟩:=hq
          intro a w hR K Q hK
          refine call hq1 a w hR K Q λa' w' hR'=>hK a' w' (R.congrHp ?_ (λo=>?_) hR')
          ·unfold XX.run;dsimp only;rw[QaG];rfl
          unfold XX.run;dsimp only;rw[QaG]
          show look (_++σ.hp) o=look (_++σ.hp) o
          rw[Uc,Uc,QkV]
          by_cases hm:Xz same o=true
          ·rw[if_pos hm]
           have:=QmK hq2 o hm
           cases hl:look hsN o with
           | none=>rfl
           | some ob=>rw[hl]at this;exact h2 o ob this
          rw[if_neg hm]
         cases e
        cases e
       cases e
      cases e
     cases e
    cases e
   cases e
  cases e
 | s=>
  dsimp only at e
  split at e
  ·rename_i d hd
   split at e
   ·rename_i x D
    split at e
    ·rename_i v hv
     replace e:=XJ e;obtain⟨j,e⟩:=e
     rw[<-hn]at j
     cases e;exact Ql.assign D hd j (h1 _ _ hv)
    cases e
   ·rename_i x D
    split at e
    ·rename_i v hv
     replace e:=XJ e;obtain⟨j,e⟩:=e
     rw[<-hn]at j
     cases e;exact Ql.move D hd j (h1 _ _ hv)
    cases e
   cases e
  rename_i hd
  split at e
  ·rename_i Tx x y D
   split at e
   ·rename_i b i off hx
    split at e
    ·rename_i v hv
     split at e
     ·rename_i cs hb
      split at e
      ·split at e
       ·rename_i k hk
        replace e:=XJ e;obtain⟨e2,e⟩:=e
        cases e
        simp only[QH]at e2
        obtain⟨⟨⟨a1,a2⟩,a3⟩,a4⟩:=e2
        exact Ql.storeL D hd (h1 _ _ hx) (h2 _ _ hb) (h1 _ _ hv) (V.isV_or a1) (ok.sz hk) (Yu a2) a3 a4 rfl
       cases e
      cases e
     cases e
    cases e
   cases e
  cases e
 | st r rs'=>
  dsimp only at e
  split at e
  ·cases e
  rename_i hd
  split at e
  ·rename_i Tx x y D
   split at e
   ·rename_i b i off hx
    split at e
    ·rename_i v hv
     split at e
     ·rename_i z rs hb
      split at e
      ·rename_i k hk
       replace e:=XJ e;obtain⟨e2,e⟩:=e
       cases e
       simp only[QH]at e2
       obtain⟨⟨⟨⟨a1,a2⟩,a3⟩,a4⟩,a5⟩:=e2
       exact Ql.storeA D hd (h1 _ _ hx) (h2 _ _ hb) hq.1 (h1 _ _ hv) (V.isV_or a1) (ok.sz hk) (Yu a2) a3 a4 a5 hq.2
      cases e
     cases e
    cases e
   cases e
  cases e
 | app rs' m=>
  dsimp only at e
  split at e
  ·rename_i d hd
   split at e
   ·rename_i c D
    obtain⟨ce,ags,ts⟩:=c
    split at e
    ·rename_i hce
     dsimp only at hce e;subst hce
     split at e
     ·rename_i x y hxy
      split at e
      ·rename_i Tx Ty hT
       split at e
       ·rename_i b k hx
        split at e
        ·rename_i v hv
         split at e
         ·rename_i z rs hb
          split at e
          ·rename_i et z' by_ hes
           split at e
           ·rename_i zs hz
            replace e:=XJ e;obtain⟨j,e⟩:=e
            simp only[QH,GW]at j
            obtain⟨⟨⟨⟨⟨⟨a1,a2⟩,a3⟩,a4⟩,a5⟩,a6⟩,a7⟩:=j
            have a4:=Yu a4;subst a4
            have a5:=Yu a5
            have a6:z≠0:=λh0=>by rw[h0]at a6;cases a6
            rw[<-hn]at a2
            obtain⟨⟨e2,z2,by2⟩,hU⟩:∃q,Yb P Ty=some q:=by
             cases hl:look T.es Ty with
             | none=>rw[hl]at a1;cases a1
             | some q=>exact⟨q,ok.es hl⟩
            have ea:ags=#[x,y]:=by rw[<-Ve (xs:=ags),hxy]
            have et:ts=#[Tx,Ty]:=by rw[<-Ve (xs:=ts),hT]
            subst ea;subst et
            split at e
            ·rename_i z'' us
             replace e:=XJ e;obtain⟨e3,e⟩:=e
             have:=Yu e3;subst this
             cases e
             obtain⟨h4,h5,h6,h7⟩:=hq
             exact Ql.appS D hd a2 (h1 _ _ hx) (h2 _ _ hb) a3 h4 (ok.es hes) hU (ok.zv hz) a5 a6 a7 h5 (h1 _ _ hv) h6 h7
            cases e
           cases e
          cases e
         cases e
        cases e
       cases e
      cases e
     cases e
    cases e
   cases e
  cases e
def Qcg {obj:Bool}{o:Oper}{t:Nat}{fo:Bool}{ms:L_ XX}:∀{D:L_ (It×Nat)} {i:Nat} {x:DF},i=D.length->Pp obj o t fo ms D i=some x->
  ∃k fl nf j,D.reverse[k]? = some (.add x fl nf,j)/\Lc o k=true/\x.d=t/\(bif fo then fl else bif obj then Zm x fl (ms.drop j)else alv x fl (ms.drop j))=true:=by
 intro D
 induction D with
 | nil=>intro i x hi h;subst hi;cases h
 | cons y D ih=>
  intro i x hi h
  subst hi
  have up:∀{x:DF},(∃k fl nf j,D.reverse[k]? = some (.add x fl nf,j)/\Lc o k=true/\x.d=t/\(bif fo then fl else bif obj then Zm x fl (ms.drop j)else alv x fl (ms.drop j))=true)->∃k fl nf j,(y::D).reverse[k]? = some (.add x fl nf,j)/\Lc o k=true/\x.d=t/\(bif fo then fl else bif obj then Zm x fl (ms.drop j)else alv x fl (ms.drop j))=true:=by
   rintro x ⟨k,fl,nf,j,h1,h2⟩
   refine⟨k,fl,nf,j,?_,h2⟩
   rw[List.reverse_cons,YY (Xe.1 h1).1];exact h1
  obtain⟨it,j⟩:=y
  cases it with
  | tn M=>rw[DX,Pp]at h;exact up (ih rfl h)
  | add z fl nf=>
   rw[DX,Pp]at h
   cases hb:(Nat.beq z.d t&&Lc o D.length&&(bif fo then fl else bif obj then Zm z fl (ms.drop j)else alv z fl (ms.drop j)))with
   | true=>
    rw[hb]at h;cases h
    simp only[QH]at hb
    exact⟨D.length,fl,nf,j,by simp,hb.1.2,Yu hb.1.1,hb.2⟩
   | false=>rw[hb]at h;exact up (ih rfl h)
def QaI {o:Oper}{f:Nat->O_ V}{σ:St}{b:Bool}(h:EM ops o f=some b)(hx:∀t u,f t=some u->look σ.fr t=some u):EM ops o (look σ.fr)=some b:=by
 unfold EM at h ⊢
 cases hg:o.guard with
 | none=>simp only[hg]at h ⊢;exact h
 | some p=>
  obtain⟨j,t⟩:=p
  simp only[hg]at h ⊢
  cases hj:ops[j]? with
  | none=>simp only[hj]at h;cases h
  | some oj=>
   simp only[hj]at h ⊢
   cases hd:oj.dst with
   | none=>simp only[hd]at h;cases h
   | some d=>
    simp only[hd]at h ⊢
    cases D:f d with
    | none=>simp only[D]at h;cases h
    | some v=>
     have:=hx d v D
     simp only[D]at h
     simp only[this]
     exact h
def Jw.want {o:Oper}{σ σ':St}(h:EM ops o (look σ.fr)=some true)(hs:Ql P C o σ σ'):Jw P C ops o σ σ':=by
 rcases PF h with⟨hg,_⟩|⟨j,t,d',hg,hj,⟨u,hu,D⟩|⟨_,D⟩⟩
 ·exact Jw.run hg hs
 ·exact Jw.runG hg hj hu (by simpa using D.symm) hs
 cases D
def Jw.unwant {o:Oper}{σ:St}{d:Nat}(h:EM ops o (look σ.fr)=some false)(hd:o.dst=some d)(hn:Nat.ble (d+1) C.n=true):Jw P C ops o σ (σ.put d (.lit undef)):=by
 rcases PF h with⟨_,D⟩|⟨j,t,d',hg,hj,⟨u,hu,D⟩|⟨hu,_⟩⟩
 ·cases D
 ·have:u=!t:=by cases u<;>cases t<;>first | rfl | cases D
  exact Jw.pass hg hj hu this hd hn
 exact Jw.passU hg hj hu hd hn
def QhS (ok:De P T)(hN:Jo P C n){D:Dr}:∀(ds:L_ Dw) {l:L_ Oper} {i:Nat} {ri:L_ (It×Nat)} {ms:L_ XX} {B:St} {φ:Prop},Uo P C T n ops S ds l i ri ms B φ=some D->i=ri.length->l=ops.toList.drop i->ms=Xi (Ym ri)->B=NC base ms->
  (∀k it j,ri.reverse[k]? = some (it,j)->j=j0 (Ym ri) k)->D.φ->
  φ/\D.ri.length=i+ds.length/\(∃r,Ym D.ri=Ym ri++r)/\D.ms=Xi (Ym D.ri)/\D.B=NC base D.ms/\(∀k it j,D.ri.reverse[k]? = some (it,j)->j=j0 (Ym D.ri) k)/\
   ∀k o it,i<=k->ops[k]? = some o->(Ym D.ri)[k]? = some it->ZJ P C ops base S (Ym D.ri) k o it:=by
 have hn:=hN.n
 intro ds
 induction ds with
 | nil=>
  intro l i ri ms B φ h hi hl hms hB hj hφ
  cases h
  refine⟨hφ,by simp[hi],⟨[],by simp⟩,hms,hB,hj,λk o it hk ho hit=>?_⟩
  have:=(Xe.1 hit).1
  simp[Ym]at this;omega
 | cons d ds ih=>
  intro l i ri ms B φ h hi hl hms hB hj hφ
  cases l with
  | nil=>cases d<;>cases h
  | cons o l=>
   have ho:ops[i]? = some o:=by
    have:=congrArg (λx=>x[0]?) hl
    simpa using this.symm
   have hl':l=ops.toList.drop (i+1):=by
    have:=congrArg List.tail hl
    simpa using this
   have hlen:(Ym ri).length=i:=by simp[Ym,hi]
   have grow:∀(it:It) (φ0:Prop) (ms':L_ XX) (B':St),ms'=Xi (Ym ri++[it])->B'=NC base ms'->Uo P C T n ops S ds l (i+1) ((it,ms.length)::ri) ms' B' φ0=some D->
     (φ0->φ/\∀its:L_ It,(∃r,its=Ym ri++(it::r))->ZJ P C ops base S its i o it)->
     φ/\D.ri.length=i+(ds.length+1)/\(∃r,Ym D.ri=Ym ri++r)/\D.ms=Xi (Ym D.ri)/\D.B=NC base D.ms/\(∀k it j,D.ri.reverse[k]? = some (it,j)->j=j0 (Ym D.ri) k)/\
      ∀k o it,i<=k->ops[k]? = some o->(Ym D.ri)[k]? = some it->ZJ P C ops base S (Ym D.ri) k o it:=by
    intro it φ0 ms' B' hms' hB' h hstep
    have hio:Ym ((it,ms.length)::ri)=Ym ri++[it]:=by simp[Ym]
    obtain⟨h1,h2,⟨r,h3⟩,h4,h5,h6,h7⟩:=ih h (by simp[hi]) hl' (by rw[hio];exact hms') hB' (λk it' j hk=>by
     rw[hio]
     rw[List.reverse_cons]at hk
     by_cases hlt:k<ri.length
     ·rw[YY (by simpa using hlt)]at hk
      rw[hj k it' j hk];unfold j0
      rw[Qdc (by omega)]
     rw[Ko (by simp;omega)]at hk
     have:k-ri.reverse.length=0:=by
      have:=(Xe.1 hk).1;simpa using this
     rw[this]at hk;simp at hk
     obtain⟨rfl,rfl⟩:=hk
     have hk2:k=ri.length:=by simp at this;omega
     unfold j0
     rw[Qdc (by omega),hms,KE (by omega)]) hφ
    obtain⟨h8,h9⟩:=hstep h1
    rw[hio,WD]at h3
    refine⟨h8,by omega,⟨_,h3⟩,h4,h5,h6,λk o' it' hk ho' hit=>?_⟩
    rcases Wv i k with hlt | hge
    ·exact h7 k o' it' hlt ho' hit
    have:k=i:=by omega
    subst this
    rw[ho]at ho';cases ho'
    have:(Ym D.ri)[k]? = some it:=by rw[h3,Ko (by omega),hlen];simp
    rw[this]at hit;cases hit
    exact h9 _ ⟨r,h3⟩
   have place:∀{its:L_ It} {it:It} {r:L_ It},its=Ym ri++(it::r)->(Xi its).take (j0 its i)=ms/\∀k it' j,ri.reverse[k]? = some (it',j)->its[k]? = some it'/\j=j0 its k:=by
    intro its it r hits
    have h1:its.take i=Ym ri:=by rw[hits,Qdc (by omega),KE (by omega)]
    refine⟨?_,λk it' j hk=>⟨?_,?_⟩⟩
    ·unfold j0;rw[h1,hits,Ad,<-hms];simp
    ·have hk2:(Ym ri)[k]? = some it':=by simp only[Ym,<-List.map_reverse,Ya,hk,WU]
     rw[hits,YY (Xe.1 hk2).1];exact hk2
    have hkl:=(Xe.1 hk).1
    rw[hj k it' j hk];unfold j0
    rw[hits,Qdc (by simp at hkl;omega)]
   have envB:∀{its:L_ It} {it:It} {r:L_ It} {σ:St},its=Ym ri++(it::r)->GN σ B->(∀k y fl nf,its[k]? = some (.add y fl nf)->Lc o k=true->ND σ y fl (ms.drop (j0 its k)))->
     (∀x u,SK B false ms ri i o x=some u->σ.opd x=some u)/\∀b u,QaH B false ms ri i o b=some u->look σ.hp b=some u:=by
    intro its it r σ hits hsub hdep
    have dep:∀{t:Nat} {x:DF},Pp false o t false ms ri i=some x->look σ.fr x.d=some x.v/\x.d=t:=λhf=>by
     obtain⟨k,fl,nf,j,g1,g2,g3,g4⟩:=Qcg hi hf
     obtain⟨g5,g6⟩:=(place hits).2 k _ j g1
     exact⟨(hdep k _ fl nf g5 g2).1 (by rw[<-g6];exact g4),g3⟩
    have depO:∀{t:Nat} {x:DF},Pp true o t false ms ri i=some x->(∀ob,x.ob=some ob->look σ.hp x.d=some ob)/\x.d=t:=λhf=>by
     obtain⟨k,fl,nf,j,g1,g2,g3,g4⟩:=Qcg hi hf
     obtain⟨g5,g6⟩:=(place hits).2 k _ j g1
     exact⟨(hdep k _ fl nf g5 g2).2 (by rw[<-g6];exact g4),g3⟩
    refine⟨λx u hx=>?_,λb u hx=>?_⟩
    ·cases x with
     | tmp t=>
      simp only[SK]at hx
      split at hx
      ·rename_i v hv;cases hx;exact hsub.1 _ _ hv
      split at hx
      ·rename_i y hy;cases hx;obtain⟨g1,g2⟩:=dep hy;subst g2;exact g1
      cases hx
     | const v=>exact hx
     | global g=>exact hx
     | func f=>exact hx
    simp only[QaH]at hx
    split at hx
    ·rename_i v hv;cases hx;exact hsub.2 _ _ hv
    split at hx
    ·rename_i y hy;obtain⟨g1,g2⟩:=depO hy;subst g2;exact g1 _ hx
    cases hx
   have envS:∀{its:L_ It} {it:It} {r:L_ It} {σ:St},its=Ym ri++(it::r)->GN σ S->(∀k y nf,its[k]? = some (.add y true nf)->Lc o k=true->Qav σ y)->
     (∀x u,SK S true ms ri i o x=some u->σ.opd x=some u)/\∀b u,QaH S true ms ri i o b=some u->look σ.hp b=some u:=by
    intro its it r σ hits hsub hdep
    have dep:∀{b:Bool} {t:Nat} {x:DF},Pp b o t true ms ri i=some x->Qav σ x/\x.d=t:=λhf=>by
     obtain⟨k,fl,nf,j,g1,g2,g3,g4⟩:=Qcg hi hf
     obtain⟨g5,g6⟩:=(place hits).2 k _ j g1
     have:fl=true:=g4
     subst this
     exact⟨hdep k _ nf g5 g2,g3⟩
    refine⟨λx u hx=>?_,λb u hx=>?_⟩
    ·cases x with
     | tmp t=>
      simp only[SK]at hx
      split at hx
      ·rename_i v hv;cases hx;exact hsub.1 _ _ hv
      split at hx
      ·rename_i y hy;cases hx;obtain⟨g1,g2⟩:=dep hy;subst g2;exact g1.1
      cases hx
     | const v=>exact hx
     | global g=>exact hx
     | func f=>exact hx
    simp only[QaH]at hx
    split at hx
    ·rename_i v hv;cases hx;exact hsub.2 _ _ hv
    split at hx
    ·rename_i y hy;obtain⟨g1,g2⟩:=dep hy;subst g2;exact g1.2 _ hx
    cases hx
   have addOK:∀{x:DF} {fl nf:Bool} {φ0:Prop},Uo P C T n ops S ds l (i+1) ((.add x fl nf,ms.length)::ri) ms B φ0=some D->
     (φ0->φ/\∀σ,(∀y u,SK (bif fl&&!nf then S else B) (fl&&!nf) ms ri i o y=some u->σ.opd y=some u)->(∀b u,QaH (bif fl&&!nf then S else B) (fl&&!nf) ms ri i o b=some u->look σ.hp b=some u)->(x.ob.isSome=true->look σ.hp x.d=none)->Jw P C ops o σ (σ.addF x))->
     φ/\D.ri.length=i+(ds.length+1)/\(∃r,Ym D.ri=Ym ri++r)/\D.ms=Xi (Ym D.ri)/\D.B=NC base D.ms/\(∀k it j,D.ri.reverse[k]? = some (it,j)->j=j0 (Ym D.ri) k)/\
      ∀k o it,i<=k->ops[k]? = some o->(Ym D.ri)[k]? = some it->ZJ P C ops base S (Ym D.ri) k o it:=by
    intro x fl nf φ0 h hs
    refine grow (.add x fl nf) φ0 ms B (by rw[Ad];simp[Xi,hms]) hB h λh0=>?_
    obtain⟨g1,g2⟩:=hs h0
    refine⟨g1,λits ⟨r,hits⟩=>?_⟩
    dsimp only[ZJ]
    generalize (fl&&!nf)=ff at g2 ⊢
    cases ff with
    | true=>exact λσ hsub hdep hf=>let ⟨a,b⟩:=envS hits hsub hdep;g2 σ a b hf
    | false=>
     intro σ hsub hdep hf
     rw[(place hits).1,<-hB]at hsub
     rw[(place hits).1]at hdep
     obtain⟨a,b⟩:=envB hits hsub hdep
     exact g2 σ a b hf
   cases d with
   | a h0 sv fl nf=>
    rw[Uo]at h
    split at h
    ·rename_i hw
     split at h
     ·rename_i dd hd
      replace h:=XJ h;obtain⟨e1,h⟩:=h
      rw[<-hn]at e1
      have stp:∀{v:V} {ob:O_ Ob} {q:O_ Prop} {σ:St},ev1 P C T h0 o dd (SK (bif fl&&!nf then S else B) (fl&&!nf) ms ri i o) (QaH (bif fl&&!nf then S else B) (fl&&!nf) ms ri i o)=some ⟨v,ob,q⟩->Rs.holds ⟨v,ob,q⟩->
        (∀x u,SK (bif fl&&!nf then S else B) (fl&&!nf) ms ri i o x=some u->σ.opd x=some u)->(∀b u,QaH (bif fl&&!nf then S else B) (fl&&!nf) ms ri i o b=some u->look σ.hp b=some u)->(ob.isSome=true->look σ.hp dd=none)->Jw P C ops o σ (σ.addF ⟨dd,v,ob⟩):=
       λhe hq hx hh hf=>Jw.want (QaI hw λt u ht=>hx (.tmp t) u ht) (Qca ok hd e1 hN.g hx hh he hq hf)
      split at h
      ·rename_i v ob q he
       split at h
       ·exact addOK h λh1=>let ⟨a,b⟩:=SG h1;⟨a,λσ hx hh hf=>stp he b hx hh hf⟩
       refine addOK h λh1=>?_
       obtain⟨h1,h2⟩:=h1
       subst h2
       obtain⟨a,b⟩:=SG h1
       exact⟨a,λσ hx hh hf=>(stp he b hx hh hf).denil⟩
      cases h
     cases h
    ·rename_i hw
     split at h
     ·rename_i dd hd
      replace h:=XJ h;obtain⟨e1,h⟩:=h
      rw[<-hn]at e1
      exact addOK h λh1=>⟨h1,λσ hx hh hf=>Jw.unwant (QaI hw λt u ht=>hx (.tmp t) u ht) hd e1⟩
     cases h
    cases h
   | m md=>
    rw[Uo]at h
    split at h
    ·rename_i hw
     split at h
     ·rename_i M q he
      refine grow (.tn M) (SF φ q) (ms++[M]) (M.run B) (by rw[Ad];simp[Xi,hms]) (by rw[Qgo,<-hB];rfl) h λh1=>?_
      obtain⟨a,b⟩:=SG (v:=.J) (ob:=none) h1
      refine⟨a,λits ⟨r,hits⟩ σ hsub hdep=>?_⟩
      rw[(place hits).1,<-hB]at hsub
      rw[(place hits).1]at hdep
      obtain⟨hx,hh⟩:=envB hits hsub hdep
      refine Jw.want (QaI hw λt u ht=>hx (.tmp t) u ht) (QiO ok hN he ?_ hx hh)
      cases q with
      | none=>trivial
      | some p=>exact b
     cases h
    cases h
def LK (ms:L_ XX):L_ (It×Nat)->L_ (Nat×V)
 | []=>[]
 | (.add x fl _,j)::r=>bif alv x fl (ms.drop j)then(x.d,x.v)::LK ms r else LK ms r
 | (.tn _,_)::r=>LK ms r
def HE (ms:L_ XX):L_ (It×Nat)->L_ (Nat×Ob)
 | []=>[]
 | (.add x fl _,j)::r=>bif Zm x fl (ms.drop j)then(match x.ob with | some ob=>(x.d,ob)::HE ms r | none=>HE ms r)else HE ms r
 | (.tn _,_)::r=>HE ms r
def okV (ops:Array Oper)(base S:St)(D:Dr):Bool:=QhJ ops&&QnT ops (Ym D.ri)&&Qj4 base (Ym D.ri)&&QhQ ops D.ms (Ym D.ri)&&QhR ops (Ym D.ri) D.ms S&&QlJ ops (Ym D.ri)
def ON {α:Type}{l:L_ (Nat×α)}:∀{j:L_ Nat} {r:L_ (Nat×α)},GD l j=some r->∀p∈r,look l p.1=some p.2:=by
 intro j
 induction j with
 | nil=>intro r h p hp;cases h;cases hp
 | cons t j ih=>
  intro r h p hp
  rw[GD]at h
  split at h
  ·rename_i v hv
   split at h
   ·rename_i r' D
    cases h
    rcases Yt.1 hp with rfl | hp
    ·exact hv
    exact ih D p hp
   cases h
  cases h
def Qj6 {fr:L_ (Nat×V)}:∀{l:L_ (Nat×V)},(∀p∈l,look fr p.1=some p.2)->FR fr l:=by
 intro l
 induction l with
 | nil=>intro _;trivial
 | cons p l D=>intro h;exact⟨h p XQ,D λq j=>h q (Yf _ j)⟩
def Qj7 {fr:L_ (Nat×Ob)}:∀{l:L_ (Nat×Ob)},(∀p∈l,look fr p.1=some p.2)->EL fr l:=by
 intro l
 induction l with
 | nil=>intro _;trivial
 | cons p l D=>intro h;exact⟨h p XQ,D λq j=>h q (Yf _ j)⟩
def AK.draw2 {id:Nat}(ok:De P T)(hN:Jo P C n)(hmix:P.follows .mixedOrders=true)(ds:L_ Dw)(sts sos ts os:L_ Nat){sf:L_ (Nat×V)}{sh:L_ (Nat×Ob)}{fr:L_ (Nat×V)}{hp:L_ (Nat×Ob)}{ri:L_ (It×Nat)}{ms:L_ XX}{B:St}{φ:Prop}
  (hS1:GD base.fr sts=some sf) (hS2:GD base.hp sos=some sh)
  (e:Uo P C T n ops ⟨sf,sh⟩ ds ops.toList 0 [] [] base True=some ⟨ri,ms,B,φ⟩) (hφ:φ) (hl:ds.length=ops.size) (hk:okV ops base ⟨sf,sh⟩ ⟨ri,ms,B,φ⟩=true)
  (hf1:GD (LK ms ri++B.fr) ts=some fr) (hf2:GD (HE ms ri++B.hp) os=some hp) (hc:St.closed ⟨fr,hp⟩=true) (k:AK P C Q (.x .normal) ks ⟨fr,hp⟩):AK P C Q (.c (.region id ops true)) ks base:=by
 have hn:=hN.n
 obtain⟨D,hD⟩:∃D:Dr,D=⟨ri,ms,B,φ⟩:=⟨_,rfl⟩
 rw[<-hD]at e hk
 have hφ:D.φ:=by rw[hD];exact hφ
 have hf1:GD (LK D.ms D.ri++D.B.fr) ts=some fr:=by rw[hD];exact hf1
 have hf2:GD (HE D.ms D.ri++D.B.hp) os=some hp:=by rw[hD];exact hf2
 clear hD
 simp only[okV,QH]at hk
 obtain⟨⟨⟨⟨⟨k1,k2⟩,k3⟩,k4⟩,k5⟩,k6⟩:=hk
 obtain⟨_,h2,_,h4,h5,h6,h7⟩:=QhS (base:=base) ok hN ds e rfl rfl rfl rfl (λk it j h=>by simp at h) hφ
 have hlen:(Ym D.ri).length=ops.size:=by simp[Ym];omega
 rw[h4]at k4 k5
 have hS:GN base ⟨sf,sh⟩:=⟨λt v h=>by
  have:=ON hS1 (t,v) (YT h);exact this,λp ob h=>by have:=ON hS2 (p,ob) (YT h);exact this⟩
 refine AK.drawV hmix hlen k1 k2 k3 k6 k4 k5 hS (λi o it ho hit=>h7 i o it (LH _) ho hit) λσ hsub hadd=>?_
 rw[<-h4,<-h5]at hsub
 have hadd':∀x fl nf j,(It.add x fl nf,j)∈D.ri->ND σ x fl (D.ms.drop j):=by
  intro x fl nf j hm
  obtain⟨i,hi⟩:=List.getElem?_of_mem (List.mem_reverse.2 hm)
  have hj:=h6 i _ j hi
  rw[hj,h4]
  refine hadd i x fl nf ?_
  simp only[Ym,<-List.map_reverse,Ya,hi,WU]
 have frOK:∀{ri:L_ (It×Nat)},(∀q∈ri,q∈D.ri)->∀{t:Nat} {v:V},look (LK D.ms ri) t=some v->look σ.fr t=some v:=by
  intro ri
  induction ri with
  | nil=>intro _ t v h;cases h
  | cons y ri ih=>
   intro hm t v h
   have hm':=λq hq=>hm q (Yf _ hq)
   obtain⟨it,j⟩:=y
   cases it with
   | tn M=>exact ih hm' h
   | add x fl nf=>
    rw[LK]at h
    cases hal:alv x fl (D.ms.drop j)with
    | false=>rw[hal]at h;exact ih hm' h
    | true=>
     rw[hal]at h
     have h:look ((x.d,x.v)::LK D.ms ri) t=some v:=h
     by_cases e:x.d=t
     ·subst e;rw[QA]at h;cases h;exact(hadd' x fl nf j (hm _ XQ)).1 hal
     rw[Qv _ _ e]at h;exact ih hm' h
 have hpOK:∀{ri:L_ (It×Nat)},(∀q∈ri,q∈D.ri)->∀{t:Nat} {v:Ob},look (HE D.ms ri) t=some v->look σ.hp t=some v:=by
  intro ri
  induction ri with
  | nil=>intro _ t v h;cases h
  | cons y ri ih=>
   intro hm t v h
   have hm':=λq hq=>hm q (Yf _ hq)
   obtain⟨it,j⟩:=y
   cases it with
   | tn M=>exact ih hm' h
   | add x fl nf=>
    rw[HE]at h
    cases hal:Zm x fl (D.ms.drop j)with
    | false=>rw[hal]at h;exact ih hm' h
    | true=>
     rw[hal]at h
     cases hob:x.ob with
     | none=>rw[hob]at h;exact ih hm' h
     | some ob=>
      rw[hob]at h
      have h:look ((x.d,ob)::HE D.ms ri) t=some v:=h
      by_cases e:x.d=t
      ·subst e;rw[QA]at h;cases h;exact(hadd' x fl nf j (hm _ XQ)).2 hal _ hob
      rw[Qv _ _ e]at h;exact ih hm' h
 refine AK.weaken (λa w hR=>hR.to (Qj6 λp hp'=>?_) (Qj7 λp hp'=>?_) hc) k
 ·have:=ON hf1 p hp'
  rw[Uc]at this
  cases hl:look (LK D.ms D.ri) p.1 with
  | some v=>rw[hl]at this;cases this;exact frOK (λ_ h=>h) hl
  | none=>rw[hl]at this;exact hsub.1 _ _ this
 have:=ON hf2 p hp'
 rw[Uc]at this
 cases hl:look (HE D.ms D.ri) p.1 with
 | some v=>rw[hl]at this;cases this;exact hpOK (λ_ h=>h) hl
 | none=>rw[hl]at this;exact hsub.2 _ _ this
end
def Ql.callSame {P:Program}{C:Xq}{T:Ea}{n:Nat}{o:Oper}{md:MD}{f:Operand->O_ V}{hp:Nat->O_ Ob}{σ:St}{d:Nat}{v:V}{q:Prop}(ok:De P T)(D:Jo P C n)(h:∀x u,f x=some u->σ.opd x=some u)(j:∀b u,hp b=some u->look σ.hp b=some u)
  (e:mu1 P C T n md o f hp=some (⟨[],[],some (d,v)⟩,some q)) (hq:q):Ql P C o σ (σ.addF ⟨d,v,none⟩):=QiO (q:=some q) ok D e hq h j
def QaJ {α:Type}{f:α->L_ V}{l:L_ α}{k h:Nat}:((l.map f).drop k).take (h-k)=((l.drop k).take (h-k)).map f:=by simp
end Go.Vm
