/- A part of the proof; what it holds is told at each theorem. -/
import Derived.Test.YtpijolohkdchcaaGreatDoorXVmO
set_option linter.unusedVariables false
set_option linter.unusedSimpArgs false
set_option linter.unusedSectionVars false
set_option linter.deprecated false
namespace Go.Vm
open Go Go.RowKit
section
variable {P:Program}{C:Ctx}{σ:St}{o:Oper}
theorem Qa2.fn {f:FuncId}{as:Array Operand}{ts:Array TypeId}{vs:List V}(ho:o.op=.call { callee:=.value (.func f),args:=as,argTypes:=ts })(he:entB P f=true)(ha:σ.opsV as.toList=some vs):
  Qa2 P C o σ f vs:=by
 intro φ a w hr
 obtain⟨h1,h2⟩:=hr.opsV _ _ ha
 refine⟨as.toList.map a.eval,?_,by simpa using h1,fun j x v hx hv=>?_⟩
 ·have e2:as.map a.eval=(as.toList.map a.eval).toArray:=by apply Array.ext';simp
  simp only [execOp,ho,resolve,Sem.run_bind,show a.eval (.func f)=.func (.func f) #[] #[]from rfl,Deferred.ofValue,Sem.run_pure,Result.andThen_ok,invoke,Array.empty_append,Array.append_empty,e2]
  exact Qgj (P:=P) (w:=w) (f:=f) (args:=(as.toList.map a.eval).toArray) he
 ·simp only [List.getElem?_map,Option.map_eq_some_iff]at hx
  obtain⟨y,hy,rfl⟩:=hx
  exact h2 j y v hy hv
theorem Qa2.clo {f:FuncId}{x:Operand}{as:Array Operand}{ts:Array TypeId}{vs fs cs:List V}(ho:o.op=.call { callee:=.value x,args:=as,argTypes:=ts })(hx:σ.opd x=some (.clo (.func f) fs cs))
  (he:entB P f=true) (ha:σ.opsV as.toList=some vs):Qa2 P C o σ f (fs++(vs++cs)):=by
 intro φ a w hr
 obtain⟨h1,h2⟩:=hr.opsV _ _ ha
 obtain⟨xs,ys,hev,e1,e2,e3,e4⟩:=(hr.opd hx).clo_inv
 have h1':as.size=vs.length:=by simpa using h1
 refine⟨xs.toList++(as.toList.map a.eval++ys.toList),?_,by simp;omega,fun j y v hy hv=>?_⟩
 ·have e5:(xs++as.map a.eval)++ys=(xs.toList++(as.toList.map a.eval++ys.toList)).toArray:=by apply Array.ext';simp
  simp only [execOp,ho,resolve,Sem.run_bind,hev,Deferred.ofValue,Sem.run_pure,Result.andThen_ok,invoke,e5]
  exact Qgj (P:=P) (w:=w) (f:=f) (args:=_) he
 ·by_cases c1:j<fs.length
  ·rw [List.getElem?_append_left (by simpa using (by omega:j<xs.size))]at hy
   rw [List.getElem?_append_left c1]at hv
   exact e3 j y v (by simpa using hy) hv
  ·rw [List.getElem?_append_right (by simp;omega)]at hy
   rw [List.getElem?_append_right (by omega)]at hv
   simp only [Array.length_toList]at hy
   rw [e1]at hy
   by_cases c2:j-fs.length<vs.length
   ·rw [List.getElem?_append_left (by simp;simp at h1;omega)]at hy
    rw [List.getElem?_append_left c2]at hv
    simp only [List.getElem?_map,Option.map_eq_some_iff]at hy
    obtain⟨z,hz,rfl⟩:=hy
    exact h2 _ z v hz hv
   ·have hl:(as.toList.map a.eval).length=vs.length:=by simpa using h1
    rw [List.getElem?_append_right (by omega),hl]at hy
    rw [List.getElem?_append_right (by omega)]at hv
    exact e4 _ y v (by simpa using hy) hv
def QjC (P:Program)(t:TypeId)(name:String):Option (FuncId×Bool):=match P.info? t with
 | some i=>match i.methods.find? (·.name==name)with
  | some m=>bif m.path.isEmpty then m.func else none
  | none=>none
 | none=>none
def ptrB (P:Program)(t:TypeId):Bool:=match P.underlying t with
 | some (.pointer _)=>true
 | _=>false
def Qn9 (P:Program)(t:TypeId):Bool:=match P.underlying t with
 | some (.pointer _)=>false
 | some _=>true
 | none=>false
theorem Qnc {t:TypeId}{name:String}{f:FuncId}{p:Bool}{n:Nat}{v r:Value}{w:World}(h:QjC P t name=some (f,p))
  (hr:(receiverAt t (.val v) p (some ((name.splitOn ".").getLastD name))).run P w=.ok r w):(method (n+1) t v name).run P w=.ok (f,r) w:=by
 unfold QjC at h
 split at h
 ·rename_i i hi
  split at h
  ·rename_i m hm
   cases hp:m.path.isEmpty with
   | false=>rw [hp]at h;cases h
   | true=>
    rw [hp]at h
    simp only [cond_true]at h
    have hpl:m.path.toList=[]:=by simpa using hp
    simp only [method,typeInfo,Sem.run_bind,Sem.run_pure,run_program,Result.andThen_ok,hi,hm,hpl,follow,h,hp,if_true,hr]
  ·cases h
 ·cases h
theorem QqU {t:TypeId}{v:Value}{wr:Option String}{w:World}(h:ptrB P t=true):(receiverAt t (.val v) true wr).run P w=.ok v w:=by
 unfold ptrB at h
 split at h
 ·rename_i e he
  simp [receiverAt,run_underlying he,Place.get]
 ·cases h
theorem QqV {t:TypeId}{v:Value}{wr:Option String}{w:World}(h:Qn9 P t=true):(receiverAt t (.val v) false wr).run P w=.ok v w:=by
 unfold Qn9 at h
 split at h
 ·cases h
 ·rename_i d hd he
  cases d<;>first | exact(hd _ rfl).elim | simp [receiverAt,run_underlying he,Place.get]
 ·cases h
def Qqh (P:Program)(t e:TypeId):Bool:=match P.underlying t with
 | some (.pointer e')=>Nat.beq e' e
 | _=>false
theorem Qqi {t e:TypeId}{p:Addr}{m:String}{w:World}{y:Value}(h:Qqh P t e=true)(hl:(loadVar e p).run P w=.ok y w):(receiverAt t (.val (.pointer (some p))) false (some m)).run P w=.ok y w:=by
 unfold Qqh at h
 split at h
 ·rename_i e' he
  have:=Nat.eq_of_beq_eq_true h
  subst this
  have hs:(Builtin.ssaWrapNilChk_ #[t] t #[.pointer (some p),strVal "",strVal m]).run P w=.ok (.pointer (some p)) w:=rfl
  simp [receiverAt,run_underlying he,Place.get,hs,asAddr,hl]
 ·cases h
theorem Qa2.meth {f:FuncId}{x:Operand}{name:String}{as:Array Operand}{ts:Array TypeId}{t:TypeId}{vs:List V}{u r:V}(ho:o.op=.call { callee:=.invoke x name,args:=as,argTypes:=ts })
  (hx:σ.opd x=some (.ifc t u)) (hm:(QjC P t name=some (f,true)∧ptrB P t=true)∨(QjC P t name=some (f,false)∧Qn9 P t=true)) (he:entB P f=true) (ha:σ.opsV as.toList=some vs):
  Qa2 P C o σ f (u::vs):=by
 intro φ a w hr
 obtain⟨h1,h2⟩:=hr.opsV _ _ ha
 obtain⟨y,hev,hy⟩:=(hr.opd hx).ifc_inv
 refine⟨y::as.toList.map a.eval,?_,by simpa using h1,fun j z v hz hv=>?_⟩
 ·have hmeth:(method (P.types.size+Made.depth) t y name).run P w=.ok (f,y) w:=by
   have hd:P.types.size+Made.depth=(P.types.size+(Made.depth-1))+1:=by have:Made.depth=(Made.depth-1)+1:=rfl;omega
   rw [hd]
   rcases hm with⟨h,hp⟩|⟨h,hp⟩
   ·exact Qnc h (QqU hp)
   ·exact Qnc h (QqV hp)
  have e2:#[y]++as.map a.eval=(y::as.toList.map a.eval).toArray:=by apply Array.ext';simp
  have e3:(#[Value.iface t y]++as.map a.eval)[0]? = some (.iface t y):=by rw [Array.getElem?_append_left (by simp)];rfl
  have e4:(#[Value.iface t y]++as.map a.eval).extract 1 (#[Value.iface t y]++as.map a.eval).size=as.map a.eval:=by
   apply Array.ext';simp [List.take_of_length_le]
  simp only [execOp,ho,resolve,Sem.run_bind,hev,Sem.run_pure,Result.andThen_ok,invoke,e3,e4,callMethod,run_program,hmeth,e2]
  exact Qgj (P:=P) (w:=w) (f:=f) (args:=_) he
 ·cases j with
  | zero=>simp at hz hv;subst hz;subst hv;exact hy
  | succ j=>
   simp only [List.getElem?_cons_succ,List.getElem?_map,Option.map_eq_some_iff]at hz hv
   obtain⟨y',hy',rfl⟩:=hz
   exact h2 j y' v hy' hv
theorem Qa2.methV {f:FuncId}{x:Operand}{name:String}{as:Array Operand}{ts:Array TypeId}{t e:TypeId}{vs:List V}{b:Nat}{r:V}(ho:o.op=.call { callee:=.invoke x name,args:=as,argTypes:=ts })
  (hx:σ.opd x=some (.ifc t (.loc b 0 0))) (hm:QjC P t name=some (f,false)) (hp:Qqh P t e=true) (hg:aggB P e=some false) (hb:look σ.hp b=some (.var [r])) (he:entB P f=true)
  (ha:σ.opsV as.toList=some vs):Qa2 P C o σ f (r::vs):=by
 intro φ a w hr
 obtain⟨h1,h2⟩:=hr.opsV _ _ ha
 obtain⟨y,hev,hy⟩:=(hr.opd hx).ifc_inv
 obtain⟨B,hB,rfl⟩:=hy.loc_inv
 obtain⟨xs,E,e1,e2,e0,e3⟩:=hr.block hB hb
 have hlt:0<xs.size:=by rw [e2];simp
 have hload:(loadVar e ⟨B.b,B.off+(0*B.z+0),none⟩).run P w=.ok xs[0] w:=by
  have:=QiJ (P:=P) (T:=e) (w:=w) (p:=⟨B.b,B.off+(0*B.z+0),none⟩) (x:=xs[0]) hg (by simp [World.cell?,e1,hlt,e0])
  simpa only [Instr.loadAt,Instr.sureAddr,Sem.run_bind,Sem.run_pure,Result.andThen_ok] using this
 refine⟨xs[0]::as.toList.map a.eval,?_,by simpa using h1,fun j z v hz hv=>?_⟩
 ·have hmeth:(method (P.types.size+Made.depth) t (.pointer (some ⟨B.b,B.off+(0*B.z+0),none⟩)) name).run P w=.ok (f,xs[0]) w:=by
   have hd:P.types.size+Made.depth=(P.types.size+(Made.depth-1))+1:=by have:Made.depth=(Made.depth-1)+1:=rfl;omega
   rw [hd]
   exact Qnc hm (Qqi hp hload)
  have e2:#[xs[0]]++as.map a.eval=(xs[0]::as.toList.map a.eval).toArray:=by apply Array.ext';simp
  have e3:(#[Value.iface t (.pointer (some ⟨B.b,B.off+(0*B.z+0),none⟩))]++as.map a.eval)[0]? = some (.iface t (.pointer (some ⟨B.b,B.off+(0*B.z+0),none⟩))):=by rw [Array.getElem?_append_left (by simp)];rfl
  have e4:(#[Value.iface t (.pointer (some ⟨B.b,B.off+(0*B.z+0),none⟩))]++as.map a.eval).extract 1 (#[Value.iface t (.pointer (some ⟨B.b,B.off+(0*B.z+0),none⟩))]++as.map a.eval).size=as.map a.eval:=by
   apply Array.ext';simp [List.take_of_length_le]
  simp only [execOp,ho,resolve,Sem.run_bind,hev,Sem.run_pure,Result.andThen_ok,invoke,e3,e4,callMethod,run_program,hmeth,e2]
  exact Qgj (P:=P) (w:=w) (f:=f) (args:=_) he
 ·cases j with
  | zero=>simp at hz hv;subst hz;subst hv;exact e3 0 _ _ (Array.getElem?_eq_getElem hlt) rfl
  | succ j=>
   simp only [List.getElem?_cons_succ,List.getElem?_map,Option.map_eq_some_iff]at hz hv
   obtain⟨y',hy',rfl⟩:=hz
   exact h2 j y' v hy' hv
def Gives (r:V)(outs:List (Nat×Ob))(v:V)(hs:List (Nat×Ob)):Prop:=v=r∧∀c ob,look outs c=some ob→look hs c=some ob
theorem Stp.callM {f:FuncId}{d:Nat}{g:Bool}{M N:List (Nat×Nat)}{dead:List Nat}{hsC outs hsN:List (Nat×Ob)}{vs us:List V}{r r':V}(hE:Qa2 P C o σ f vs)(hd:o.dst=some d)(hn:Nat.ble (d+1) C.n=true)(hpg:C.pg P)
  (hnm:QcR σ M N dead outs=true) (hnd:(M.map Prod.fst).Nodup)
  (hv:Vws σ.hp g false (snds M) (fun a b=>look M b=some a) vs us) (hobs:ObsW σ.hp g false (snds M) (fun a b=>look M b=some a) σ.hp M hsC)
  (hc:Qc P f us hsC (Gives r outs)) (hback:ObsW [] false g [] (fun c b=>look N b=some c) outs N hsN) (hr':Vw [] false g [] (fun c b=>look N b=some c) r r'):
  Stp P C o σ ((σ.after dead hsN).put d r'):=by
 intro a w ⟨φ,hr⟩ next Q hnext
 have hN:=Names.of hnm hnd
 refine⟨fun _ _=>trivial,?_⟩
 obtain⟨vals,hex,h1,h2⟩:=hE φ a w hr
 rw [QoU hex,Oper.uponIn_enter]
 refine⟨(fun h=>by cases h),QmI ((hc _ _ w _ (Ins.of_vals hr h1 h2 hN.injM hN.param hv hobs) ((hr.glob hpg).mono fun _ h=>.inl h)).mono ?_)⟩
 rintro e w' ⟨x,v,hs',φ',rfl,⟨rfl,hso⟩,hout⟩
 obtain⟨h3,h4⟩:=hr.after hN hout hso (fun c s h=>by
  obtain⟨ob',e1⟩:=hobs.get.2 c s h
  obtain⟨s',ob,e2,e3,_⟩:=hobs.get.1 c ob' e1
  rw [h]at e2;cases e2;exact⟨ob,e3⟩) hback
 refine hnext _ _ ⟨join φ M N dead φ',?_⟩
 rw [hd]
 exact h3.put (QS hn) (h4 hr')
end
end Go.Vm
