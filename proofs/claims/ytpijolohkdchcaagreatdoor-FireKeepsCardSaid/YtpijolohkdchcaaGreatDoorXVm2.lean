/- A part of the proof; what it holds is told at each theorem. -/
import Derived.Test.YtpijolohkdchcaaGreatDoorXVm1
import Derived.RangeFuncIn
set_option linter.unusedVariables false
set_option linter.unusedSimpArgs false
set_option linter.unusedSectionVars false
set_option linter.deprecated false
namespace Go.Vm
open Go Go.RowKit
def Qqo (cs:List V):List Tmp→List V→List V
 | p::ps,v::vs=>Qqo (cs.set p v) ps vs
 | _,_=>cs
theorem QtN {φ:Nat→Option Blk}{I:Nat→Prop}{w:World}:∀(ps:List Tmp) (as:List Value) (vs:List V) (tm:Array Value) (cs:List V),as.length=vs.length→tm.size=cs.length→
  (∀(j:Nat) x v,tm[j]? = some x→cs[j]? = some v→Rep φ I w x v)→(∀(j:Nat) x v,as[j]? = some x→vs[j]? = some v→Rep φ I w x v)→
  ((ps.zip as).foldl (fun tm p=>tm.setIfInBounds p.1 p.2) tm).size=(Qqo cs ps vs).length∧∀(j:Nat) x v,((ps.zip as).foldl (fun tm p=>tm.setIfInBounds p.1 p.2) tm)[j]? = some x→(Qqo cs ps vs)[j]? = some v→Rep φ I w x v:=by
 intro ps
 induction ps with
 | nil=>intro as vs tm cs _ h2 h3 _;cases vs<;>exact⟨h2,h3⟩
 | cons p ps ih=>
  intro as vs tm cs h1 h2 h3 h4
  cases as with
  | nil=>cases vs with
   | nil=>exact⟨h2,h3⟩
   | cons=>cases h1
  | cons y as=>cases vs with
   | nil=>cases h1
   | cons v vs=>
    refine ih as vs (tm.setIfInBounds p y) (cs.set p v) (by simpa using h1) (by simpa using h2) (fun j x u hx hu=>?_) fun j x u hx hu=>h4 (j+1) x u hx hu
    by_cases e:p=j
    ·subst e
     rw [Array.getElem?_setIfInBounds_self]at hx
     rw [List.getElem?_set_self']at hu
     split at hx
     ·rename_i hlt
      cases hx
      rw [List.getElem?_eq_getElem (by omega)]at hu
      cases hu
      exact h4 0 _ _ rfl rfl
     ·cases hx
    ·rw [Array.getElem?_setIfInBounds_ne e]at hx
     rw [List.getElem?_set_ne e]at hu
     exact h3 j x u hx hu
def QkO (P:Program)(l:Nat)(K:Qga)(us:List V)(hs:List (Nat×Ob))(post:V→List (Nat×Ob)→Prop):Prop:=
 ∀(S:Nat→Prop) (φ:Nat→Option Blk) (w:World) (vals:Array Value),Ins S φ w vals us hs→Glob P S w→
  RoundIn Fence.wide 0 P l K.fn vals K.assign K.body w fun e w'=>∃x v hs' φ',e=.returned x∧post v hs'∧Outs S φ w φ' w' x v hs'
theorem Qvj {C:Ctx}{n:Nat}{P:Program}{l:Nat}{f:FuncId}{tmps:Array Value}{assign body:Code}{w:World}{R:Ending→World→Prop}(h:RoundIn Fence.wide 0 P l f tmps assign body w R):RoundIn C.F n P l f tmps assign body w R:=
 ⟨trivial,fun c cs _=>h.2 c cs (room_wide _)⟩
section
variable {P:Program}{C:Ctx}{φ:Nat→Option Blk}{σ:St}{a:Act}{w:World}{o:Oper}
theorem RR.lp (h:RR C φ σ a w){b l:Nat}{K:Qga}{cs:List V}{q:Nat}(hb:look σ.hp b=some (.lp l K cs q)):∃B,φ b=some B∧QuQ φ (Imm C φ w) w B l K cs q:=by
 rcases h.heap b _ hb with h | ⟨_,z,h⟩
 ·exact h
 ·cases h
theorem RR.lpSet (h:RR C φ σ a w){b l:Nat}{K:Qga}{cs:List V}{q q':Nat}(hb:look σ.hp b=some (.lp l K cs q)):
  ∃r:Loop,w.heap[l]? = some (.loop r)∧r.state=lst q∧r.pending=jmp q∧RR C φ (σ.set b (.lp l K cs q')) a (w.putObj l (.loop { r with state:=lst q',pending:=jmp q' })):=by
 obtain⟨B,hB,tmps,D,rfl,h1,h2,h3,h4⟩:=h.lp hb
 refine⟨_,h2,rfl,rfl,?_⟩
 have hlt:=(h.lt b B B.b hB B.self).1
 have hk:∀k,k≠B.b→(w.putObj B.b (.loop { state:=lst q',pending:=jmp q',fn:=K.fn,tmps,params:=K.ps,assign:=K.assign,body:=K.body,defers:=D })).heap[k]? = w.heap[k]? := fun k hk=>World.putObj_heap_other hk
 refine h.write hB rfl rfl rfl World.putObj_size hk ⟨tmps,D,rfl,h1,World.putObj_heap_same hlt,h3,fun j x v hx hv=>?_⟩
 refine(h4 j x v hx hv).mono (fun _ _ h=>h) fun k hk'=>⟨⟨by rw [World.putObj_size];exact hk'.1,hk'.2⟩,hk k fun e=>hk'.2.2 b B hB (.inl e)⟩
theorem Stp.yield {d b l:Nat}{K:Qga}{cs:List V}{q:Nat}{x:Operand}{as:Array Operand}{ts:Array TypeId}{M N:List (Nat×Nat)}{dead:List Nat}{hsC outs hsN:List (Nat×Ob)}{vs us:List V}{r r':V}(ho:o.op=.call { callee:=.value x,args:=as,argTypes:=ts })
  (hx:σ.opd x=some (.clo (.yield l) [] [])) (hlp:look σ.hp b=some (.lp l K cs q)) (hq:q=0) (ha:σ.opsV as.toList=some vs) (hps:vs.length=K.ps.size) (hd:o.dst=some d) (hn:Nat.ble (d+1) C.n=true) (hpg:C.pg P)
  (hnm:QcR σ M N dead outs=true) (hnd:(M.map Prod.fst).Nodup)
  (hv:Vws σ.hp false false (snds M) (fun a b=>look M b=some a) (Qqo cs K.ps.toList vs) us) (hobs:ObsW σ.hp false false (snds M) (fun a b=>look M b=some a) σ.hp M hsC)
  (hc:QkO P l K us hsC (Gives r outs)) (hback:ObsW [] false false [] (fun c b=>look N b=some c) outs N hsN) (hr':Vw [] false false [] (fun c b=>look N b=some c) r r'):
  Stp P C o σ ((σ.after dead hsN).put d r'):=by
 intro a w ⟨φ,hr⟩ next Q hnext
 subst hq
 have hN:=Names.of hnm hnd
 refine⟨fun _ _=>trivial,?_⟩
 obtain⟨h1,h2⟩:=hr.opsV _ _ ha
 obtain⟨xs,ys,hev,e1,e2,_,_⟩:=(hr.opd hx).clo_inv
 have e1:xs=#[]:=Array.eq_empty_of_size_eq_zero e1
 have e2:ys=#[]:=Array.eq_empty_of_size_eq_zero e2
 subst e1;subst e2
 obtain⟨B,hB,tmps,D,e0,_,hh,hsz,hrep⟩:=hr.lp hlp
 have hl1:(as.toList.map a.eval).length=vs.length:=by simpa using h1
 obtain⟨s1,s2⟩:=QtN (φ:=φ) (I:=Imm C φ w) (w:=w) K.ps.toList (as.toList.map a.eval) vs tmps cs hl1 hsz hrep (fun j x v hx hv=>by
  simp only [List.getElem?_map,Option.map_eq_some_iff]at hx
  obtain⟨y,hy,rfl⟩:=hx
  exact h2 j y v hy hv)
 have hsize:(as.map a.eval).size=K.ps.size:=by rw [←hps,←hl1];simp
 have hfold:(K.ps.zip (as.map a.eval)).foldl (fun tmps (t,a)=>tmps.setIfInBounds t a) tmps=(K.ps.toList.zip (as.toList.map a.eval)).foldl (fun tm p=>tm.setIfInBounds p.1 p.2) tmps:=by
  rw [←Array.foldl_toList];simp
 have hex:(execOp a.eval o).run P w=.ok (.round l K.fn ((K.ps.toList.zip (as.toList.map a.eval)).foldl (fun tm p=>tm.setIfInBounds p.1 p.2) tmps).toList.toArray K.assign K.body) w:=by
  simp only [execOp,ho,resolve,Sem.run_bind,hev,Deferred.ofValue,Sem.run_pure,Result.andThen_ok,invoke,Array.empty_append]
  rw [run_yield hh hsize,hfold]
 rw [Oper.semAt_eq _ _ _ (by rw [ho];intro c hc;cases hc),hex,Oper.uponIn_round]
 refine⟨(fun h=>by cases h),Qvj ((hc _ _ w _ (Ins.of_vals hr (by simpa using s1) (fun j x v hx hv=>s2 j x v (by simpa using hx) hv) hN.injM hN.param hv hobs) ((hr.glob hpg).mono fun _ h=>.inl h)).mono ?_)⟩
 rintro e w' ⟨x,v,hs',φ',rfl,⟨rfl,hso⟩,hout⟩
 obtain⟨h3,h4⟩:=hr.after hN hout hso (fun c s h=>by
  obtain⟨ob',e1⟩:=hobs.get.2 c s h
  obtain⟨s',ob,e2,e3,_⟩:=hobs.get.1 c ob' e1
  rw [h]at e2;cases e2;exact⟨ob,e3⟩) hback
 refine hnext _ _ ⟨join φ M N dead φ',?_⟩
 rw [hd]
 exact h3.put (QS hn) (h4 hr')
def Qvk (b l:Nat)(K:Qga)(post:V→List (Nat×Ob)→Prop):Exit→St→Prop
 | .normal,σ=>∃cs,look σ.hp b=some (.lp l K cs 1)∧post (.b true) ((b,.lp l K cs 0)::σ.hp)
 | .ret,σ=>∃cs,look σ.hp b=some (.lp l K cs 1)∧post (.b false) ((b,.lp l K cs 2)::σ.hp)
 | .exit k,σ=>∃cs,look σ.hp b=some (.lp l K cs 1)∧post (.b false) ((b,.lp l K cs (k+3))::σ.hp)
 | _,_=>False
theorem QkO.walk {b l:Nat}{K:Qga}{us:List V}{hs:List (Nat×Ob)}{post:V→List (Nat×Ob)→Prop}(n:Nat)(hn:us.length=n)(hle:Nat.ble n 200000=true)
  (h:∀C:Ctx,Qem P C n→AK P C (fun e σ=>e=.normal∧∃cs,look σ.hp b=some (.lp l K cs 0)∧AK P C (Qvk b l K post) (.c K.body) [] (σ.set b (.lp l K cs 1))) (.c K.assign) [] ⟨frOf 0 us,hs⟩):QkO P l K us hs post:=by
 intro S φ w vals hi hG
 let C:Ctx:=⟨w,S,fun k=>∃o B,φ o=some B∧B.has k,n,φ,Nat.le_of_ble_eq_true hle,some l⟩
 have hF:Fence.wide.inRound l=C.F:=rfl
 have hI:∀k,S k→Imm C φ w k∧w.heap[k]? = w.heap[k]? := fun k hk=>⟨⟨hi.lt k hk,fun _=>hk,fun o B hB e=>((hi.dom o B hB).2.1 k e).2 hk⟩,rfl⟩
 have hR:R C ⟨frOf 0 us,hs⟩ { tmps:=vals,defers:=[] } w:=by
  refine⟨φ,rfl,rfl,rfl,Nat.le_refl _,fun _ _ _=>rfl,hi.inj,fun o B hB=>(hi.dom o B hB).2.2,fun o B k hB hk=>⟨((hi.dom o B hB).2.1 k hk).1,fun _=>⟨o,B,hB,hk⟩⟩,fun o B k hB hk hlt=>absurd (hi.dom o B hB).1 (by omega),⟨fun _ _ _ h=>h,fun _ _ _ _ _ h=>h⟩,
   by show vals.size=n;rw [hi.size,hn],⟨[],rfl,List.nodup_nil,fun _ h=>by cases h⟩,fun t v hv=>?_,fun o ob hob=>?_⟩
  ·obtain⟨_,h2⟩:=Qro us 0 t v hv
   rw [Nat.sub_zero]at h2
   have hlt:t<vals.size:=by rw [hi.size];exact(List.getElem?_eq_some_iff.1 h2).1
   exact⟨vals[t],Array.getElem?_eq_getElem hlt,(hi.args t _ v (Array.getElem?_eq_getElem hlt) h2).mono (fun _ _ h=>h) hI⟩
  ·rcases hi.heap o ob hob with⟨B,hB,hr⟩|hn
   ·exact .inl ⟨B,hB,hr.mono (fun _ _ h=>h) hI fun _ _=>rfl⟩
   ·exact .inr hn
 refine roundIn_of_wpIn trivial ?_
 rw [hF]
 refine wpIn_mono (h C ⟨rfl,hG,fun g hg ⟨o,B,hB,hb⟩=>((hi.dom o B hB).2.1 g hb).2 (hG g hg).1⟩ _ _ hR) ?_
 rintro e a1 w1 ⟨σ1,⟨rfl,cs,hlp,hbody⟩,φ1,hr1⟩
 obtain⟨r,g1,g2,g3,g4⟩:=hr1.lpSet (q':=1) hlp
 refine⟨_,run_beginRound g1 g2,?_⟩
 have hbusy:({ r with state:=LoopState.busy }:Loop)={ r with state:=lst 1,pending:=jmp 1 }:=by
  rw [show jmp 1=r.pending from g3.symm];rfl
 rw [hbusy]
 refine wpIn_mono (hbody _ _ ⟨φ1,g4⟩) ?_
 rintro e a2 w2 ⟨σ2,hq,φ2,hr2⟩
 have fin:∀(jump:Option Code) (q:Nat) (cs2:List V),look σ2.hp b=some (.lp l K cs2 1)→jmp q=jump→(if jump.isNone then LoopState.ready else LoopState.done)=lst q→post (.b jump.isNone) ((b,.lp l K cs2 q)::σ2.hp)→
   ∃v w',(Instr.endRound l jump).run P w2=.ok v w'∧∃x v' hs' φ',Ending.returned v=.returned x∧post v' hs'∧Outs S φ w φ' w' x v' hs':=fun jump q cs2 hl2 hj hst hp=>by
  obtain⟨r2,k1,_,_,k4⟩:=hr2.lpSet (q':=q) hl2
  refine⟨_,_,run_endRound jump k1,.bool jump.isNone,.b jump.isNone,_,φ2,rfl,hp,?_⟩
  rw [hst,←hj]
  exact⟨k4.os,k4.tape,k4.output,k4.size,fun k hk hne=>k4.kept k hk (fun ⟨o,B,hB,e⟩=>hne o B hB e),k4.inj,k4.dom,
   fun o B k hB hk=>⟨(k4.lt o B k hB hk).1,fun hlt=>(k4.lt o B k hB hk).2 hlt⟩,k4.new,k4.stay,.dat (.b _),k4.heap⟩
 cases e with
 | normal=>obtain⟨cs2,hl2,hp⟩:=hq;exact fin none 0 cs2 hl2 rfl rfl hp
 | ret=>obtain⟨cs2,hl2,hp⟩:=hq;exact fin (some .ret) 2 cs2 hl2 rfl rfl hp
 | exit k=>obtain⟨cs2,hl2,hp⟩:=hq;exact fin (some (.exit k)) (k+3) cs2 hl2 rfl rfl hp
 | _=>exact hq.elim
theorem RR.mark (h:RR C φ σ a w):RR C φ σ { a with defers:={ target:=.collected w.heap.size,args:=#[] }::a.defers } (w.alloc (.deferred (some []))):=by
 have hs:=h.step (w':=w.alloc (.deferred (some []))) rfl rfl rfl (by simp) (fun k hk=>Below.heap_alloc w _ k hk)
 refine⟨hs.os,hs.tape,hs.output,hs.size,hs.kept,hs.inj,hs.dom,hs.lt,hs.new,hs.stay,hs.tmps,?_,hs.frame,hs.heap⟩
 obtain⟨Ds,h1,h2,h3⟩:=hs.defers
 obtain⟨Ds',h1',h2',h3'⟩:=h.defers
 refine⟨w.heap.size::Ds',by simp [h1'],List.nodup_cons.2 ⟨fun hm=>absurd (h3' _ hm).2.1.1 (by omega),h2'⟩,fun D hD=>?_⟩
 rcases List.mem_cons.1 hD with rfl | hD
 ·refine⟨h.size,⟨by simp,fun hlt=>absurd h.size (by omega),fun o B hB hh=>absurd (h.lt o B _ hB hh).1 (by omega)⟩,World.alloc_heap_new w _⟩
 ·obtain⟨a1,a2,a3⟩:=h3' D hD
  exact⟨a1,⟨by have:=a2.1;simp;omega,a2.2⟩,(Below.heap_alloc w _ D a2.1).trans a3⟩
theorem RR.killTo (h:RR C φ σ a w){b:Nat}{B:Blk}(hB:φ b=some B){w':World}(ho:w'.os=w.os)(ht:w'.tape=w.tape)(hu:w'.output=w.output)(hs:w'.heap.size=w.heap.size)(hk:∀k,k≠B.b→w'.heap[k]? = w.heap[k]?):RR C (del φ b) (σ.kill b) a w':=by
 have hI:∀k,Imm C φ w k→Imm C (del φ b) w' k∧w'.heap[k]? = w.heap[k]? := fun k hk'=>⟨⟨by rw [hs];exact hk'.1,hk'.2.1,fun o B' hB'=>hk'.2.2 o B' (Qbj hB').2⟩,hk k fun e=>hk'.2.2 b B hB (.inl e)⟩
 have hφ:∀o B,o≠b→φ o=some B→del φ b o=some B:=fun o B ho hB=>by rw [QdA ho];exact hB
 refine⟨ho.trans h.os,ht.trans h.tape,hu.trans h.output,by rw [hs];exact h.size,fun k h1 h2=>(hk k fun e=>h2 ((h.lt b B k hB (.inl e)).2 h1)).trans (h.kept k h1 h2),fun o o' B B' k h1 h2=>h.inj o o' B B' k (Qbj h1).2 (Qbj h2).2,?_,fun o B k hB=>by rw [hs];exact h.lt o B k (Qbj hB).2,fun o B k hB=>h.new o B k (Qbj hB).2,
  ⟨fun o B h1 hB=>h.stay.1 o B h1 (Qbj hB).2,fun o ob B h1 ho hB=>by obtain⟨hne,ob',h2,_⟩:=Qce _ _ _ ho;rw [QdA hne];exact h.stay.2 o ob' B h1 h2 hB⟩,h.tmps,h.defers.mono hI,?_,?_⟩
 ·intro o B hB
  obtain⟨h1,h2⟩:=Qbj hB
  obtain⟨ob,hob⟩:=h.dom o B h2
  exact⟨_,QeI _ _ _ h1 hob⟩
 ·intro t v hv
  obtain⟨v',hv',rfl⟩:=QkK _ _ _ hv
  obtain⟨x,hx,hr⟩:=h.frame t v' hv'
  exact⟨x,hx,hr.kill hφ hI⟩
 ·intro o ob hob
  obtain⟨hne,ob',hob',rfl⟩:=Qce _ _ _ hob
  rcases h.heap o ob' hob' with⟨B',hB',hr⟩|⟨h1,z,rfl⟩
  ·exact .inl ⟨B',hφ o B' hne hB',hr.kill hφ hI fun k hk'=>hk k fun e=>hne (h.inj o b B' B k hB' hB hk' (.inl e))⟩
  ·exact .inr ⟨by rw [QdA hne];exact h1,z,rfl⟩
def snap (ts:List Nat)(fr:List (Nat×V))(n:Nat):List V:=(List.range n).map fun t=>bif memB ts t then(match look fr t with
 | some v=>v
 | none=>.J)else .J
theorem RR.snap {ts:List Nat}(h:RR C φ σ a w):∀(j:Nat) x v,a.tmps[j]? = some x→(snap ts σ.fr C.n)[j]? = some v→Rep φ (Imm C φ w) w x v:=by
 intro j x v hx hv
 simp only [Vm.snap,List.getElem?_map,Option.map_eq_some_iff]at hv
 obtain⟨t,ht,rfl⟩:=hv
 obtain⟨_,rfl⟩:=List.getElem?_eq_some_iff.1 ht
 simp only [List.getElem_range]at *
 cases hm:memB ts j with
 | false=>exact .dat (.J _)
 | true=>
 simp only [cond_true]
 split
 ·rename_i v hv
  obtain⟨y,hy,hr⟩:=h.frame _ _ hv
  rw [hx]at hy;cases hy;exact hr
 ·exact .dat (.J _)
def rgV (P:Program)(σ:St)(f:Nat)(vs:List V)(M N:List (Nat×Nat))(dead:List Nat)(ms:List Mode)(outs:List (Nat×Ob))(r:V):Option (St×Prop):=
 bif QcR σ M N dead outs&&Qgk (M.map Prod.fst)&&Qgk (N.map Prod.fst)then match QjE (bkM M) ms vs with
  | some us=>match obsM (bkM M) (look σ.hp) M with
   | some hsC=>match obsM (bkM N) (look outs) N with
    | some hsN=>some (σ.after dead hsN,Qc P f us hsC (Gives r outs))
    | none=>none
   | none=>none
  | none=>none
 else none
def atJ (p:Prop)(f:Code→Prop):Option Code→Prop
 | none=>p
 | some c=>f c
theorem AK.rangeF {Q:Exit→St→Prop}{ks:List Fr}{g:Operand}{ps:Array Tmp}{assign body:Code}{f n:Nat}{fs cps:List V}(b:Nat)(ts:List Nat)(M N:List (Nat×Nat))(dead:List Nat)(ms:List Mode)(K:Nat→Qga)(hCn:Qem P C n)(hrnd:C.rnd=none)(hK:∀fn,K fn=⟨fn,ps,assign,body⟩)
  (hg:σ.opd g=some (.clo (.func f) fs cps)) (he:entB P f=true) (hb:look σ.hp b=none) (hb2:Nat.ble 200000 b=false)
  (H:∀l fn,∃outs r σ2 φ2 cs2 q,rgV P (σ.set b (.lp l (K fn) (snap ts σ.fr n) 0)) f (fs++(.clo (.yield l) [] []::cps)) M N dead ms outs r=some (σ2,φ2)∧φ2∧look σ2.hp b=some (.lp l (K fn) cs2 q)∧q≠1∧
   atJ (AK P C Q (.x .normal) ks (σ2.kill b)) (fun c=>AK P C Q (.c c) ks (σ2.kill b)) (jmp q)):AK P C Q (.c (.rangeFunc g ps assign body)) ks σ:=by
 obtain rfl:K=fun fn=>⟨fn,ps,assign,body⟩:=funext hK
 have hpg:=hCn.g
 replace hCn:=hCn.n
 subst hCn
 intro a w ⟨φ,hr⟩
 refine wpIn_rangeFunc fun fn _=>?_
 obtain⟨outs,r,σ2,φ2,cs2,q,e,hφ2,hq,hq1,hk⟩:=H (w.heap.size+1) fn
 obtain⟨xs,ys,hev,e1,e2,e3,e4⟩:=(hr.opd hg).clo_inv
 have hb3:b<200000:=Qd2 (by rw [hb2];rfl)
 refine⟨w.heap.size+1,[{ target:=.collected w.heap.size,args:=#[] }],(w.alloc (.deferred (some []))).alloc (.loop { state:=.ready,pending:=none,fn,tmps:=a.tmps,params:=ps,assign,body,defers:=w.heap.size }),{ target:=.fn (.func f) ys,args:=xs++#[.func (.yield (w.heap.size+1)) #[] #[]] },(w.alloc (.deferred (some []))).alloc (.loop { state:=.ready,pending:=none,fn,tmps:=a.tmps,params:=ps,assign,body,defers:=w.heap.size }),f,(xs++#[.func (.yield (w.heap.size+1)) #[] #[]])++ys,(w.alloc (.deferred (some []))).alloc (.loop { state:=.ready,pending:=none,fn,tmps:=a.tmps,params:=ps,assign,body,defers:=w.heap.size }),?_,?_,fun _ _=>trivial,?_,(fun h=>by cases h),?_⟩
 ·rw [show C.F.round=none from hrnd];exact run_enterLoop_outer _ _ _ _ _
 ·have hy:a.eval (.const (.func (.yield (w.heap.size+1)) #[] #[]))=.func (.yield (w.heap.size+1)) #[] #[]:=rfl
  simp only [resolve,hev,Deferred.ofValue,Sem.run_pure,List.map_toArray,List.map_cons,List.map_nil,hy]
 ·exact Qgj he
 have hm:=hr.mark
 have hN0:=hm.none_of_look hb
 have hsz:(w.alloc (.deferred (some []))).heap.size=w.heap.size+1:=by simp
 have hR1:=hm.alloc (cap:=0) (z:=0) hb hb3 (ob:=.lp (w.heap.size+1) ⟨fn,ps,assign,body⟩ (snap ts σ.fr C.n) 0)
  (obj:=.loop { state:=.ready,pending:=none,fn,tmps:=a.tmps,params:=ps,assign,body,defers:=w.heap.size })
  ⟨a.tmps,w.heap.size,hsz,rfl,by rw [←hsz];exact World.alloc_heap_new _ _,by rw [hr.tmps];simp [Vm.snap],fun j x v hx hv=>(hm.snap j x v hx hv).mono (hm.mono_ext _ hN0) (hm.imm_alloc b 0 0 _ hN0)⟩
 rw [hsz]at hR1
 generalize hσ1:σ.set b (.lp (w.heap.size+1) ⟨fn,ps,assign,body⟩ (snap ts σ.fr C.n) 0)=σ1 at hR1 e
 generalize hw1:(w.alloc (.deferred (some []))).alloc (.loop { state:=.ready,pending:=none,fn,tmps:=a.tmps,params:=ps,assign,body,defers:=w.heap.size })=w1 at hR1 ⊢
 have hval:(xs++#[.func (.yield (w.heap.size+1)) #[] #[]])++ys=(xs.toList++(.func (.yield (w.heap.size+1)) #[] #[]::ys.toList)).toArray:=by apply Array.ext';simp
 rw [hval]
 unfold rgV at e
 replace e:=bifS e;obtain⟨e0,e⟩:=e
 simp only [Bool.and_eq_true]at e0
 obtain⟨⟨h1,h2⟩,h3⟩:=e0
 have h2:=QbX.1 h2
 have h3:=QbX.1 h3
 have inj:injB M=true∧injB N=true:=by
  simp only [QcR,Bool.and_eq_true]at h1
  exact⟨h1.1.1.1,h1.1.1.2⟩
 have mM:∀a b,bkM M a=some b→look M b=some a:=fun a b h=>Qa3 inj.1 (Qfo h) h2
 have mN:∀a b,bkM N a=some b→look N b=some a:=fun a b h=>Qa3 inj.2 (Qfo h) h3
 have hNm:=Names.of h1 h2
 split at e
 case h_2=>cases e
 rename_i us hus
 split at e
 case h_2=>cases e
 rename_i hsC hC
 split at e
 case h_2=>cases e
 rename_i hsN hNN
 cases e
 have hobs:=Qco (hp:=σ1.hp) (g:=false) (bad:=snds M) mM hC
 have hfr1:σ1.fr=σ.fr:=by rw [←hσ1];rfl
 refine QmI ((hφ2 _ _ w1 _ (Ins.of_vals (g:=false) (vs:=fs++(.clo (.yield (w.heap.size+1)) [] []::cps)) hR1 (by simp [e1,e2]) (fun j x v hx hv=>?_) hNm.injM hNm.param (Qho mM hus) hobs) ((hR1.glob hpg).mono fun _ h=>.inl h)).mono ?_)
 ·have up:=fun {x:Value} {v:V} (h:Rep φ (Imm C φ w) w x v)=>(h.mono (φ':=φ) (I':=Imm C φ (w.alloc (.deferred (some [])))) (w':=w.alloc (.deferred (some []))) (fun _ _ h=>h) fun k hk=>⟨⟨by have:=hk.1;simp;omega,hk.2⟩,Below.heap_alloc w _ k hk.1⟩).mono (hm.mono_ext ⟨w.heap.size+1,0,0,[],0⟩ hN0) (by
   have:=hm.imm_alloc b 0 0 (.loop { state:=.ready,pending:=none,fn,tmps:=a.tmps,params:=ps,assign,body,defers:=w.heap.size }) hN0
   rw [hsz,hw1]at this;exact this)
  by_cases c1:j<fs.length
  ·rw [List.getElem?_append_left (by simpa using (by omega:j<xs.size))]at hx
   rw [List.getElem?_append_left c1]at hv
   exact up (e3 j x v (by simpa using hx) hv)
  ·rw [List.getElem?_append_right (by simp;omega)]at hx
   rw [List.getElem?_append_right (by omega)]at hv
   simp only [Array.length_toList]at hx
   rw [e1]at hx
   generalize j-fs.length=i at hx hv
   cases i with
   | zero=>
    simp at hx hv;subst hx;subst hv
    exact .clo (.yield _) #[] #[] [] [] rfl rfl (fun j x v h=>by simp at h) (fun j x v h=>by simp at h)
   | succ i=>simp only [List.getElem?_cons_succ]at hx hv;exact up (e4 i x v (by simpa using hx) hv)
 ·rintro e w' ⟨x,v,hs',φ',rfl,⟨rfl,hso⟩,hout⟩
  obtain⟨k3,_⟩:=hR1.after hNm hout hso (fun c s h=>by
   obtain⟨ob',e1⟩:=hobs.get.2 c s h
   obtain⟨s',ob,e2,e3,_⟩:=hobs.get.1 c ob' e1
   rw [h]at e2;cases e2;exact⟨ob,e3⟩) (Qco mN hNN)
  obtain⟨B,hB,tmps,D,f1,f2,f3,f4,f5⟩:=k3.lp hq
  have hst:lst q≠.busy:=by
   match q,hq1 with
   | 0,_=>exact(by intro h;cases h)
   | 1,h=>exact absurd rfl h
   | k+2,_=>exact(by intro h;cases h)
  refine⟨_,_,run_endLoop f3 hst,?_⟩
  have hkill:=k3.killTo hB (w':=w'.putObj (w.heap.size+1) (.loop { state:=.exhausted,pending:=jmp q,fn,tmps,params:=ps,assign,body,defers:=D })) rfl rfl rfl World.putObj_size (fun k hk=>World.putObj_heap_other (by rw [←f1];exact hk))
  simp only
  cases hj:jmp q with
  | none=>rw [hj]at hk hkill;exact hk _ _ ⟨_,hkill⟩
  | some c=>rw [hj]at hk hkill;exact hk _ _ ⟨_,hkill⟩
end
section
variable {P:Program}{C:Ctx}{φ:Nat→Option Blk}{σ:St}{a:Act}{w:World}{o:Oper}
def Qol (P:Program)(T:TypeId)(i:Nat):Option (Nat×Bool×Nat):=match P.underlying T with
 | some (.struct fs)=>match fs[i]? with
  | some f=>match aggB P f.type with
   | some g=>match Qfy P f.type with
    | some n=>some (f.offset,g,n)
    | none=>none
   | none=>none
  | none=>none
 | _=>none
theorem Qth {T i off n:Nat}{g:Bool}(h:Qol P T i=some (off,g,n)):∃(fs:Array Field) (f:Field),P.underlying T=some (.struct fs)∧fs[i]? = some f∧f.offset=off∧aggB P f.type=some g∧Qfy P f.type=some n:=by
 unfold Qol at h
 split at h
 ·rename_i fs hu
  split at h
  ·rename_i f hf
   split at h
   ·rename_i g' hg
    split at h
    ·rename_i n' hn;cases h;exact⟨fs,f,hu,hf,rfl,hg,hn⟩
    ·cases h
   ·cases h
  ·cases h
 ·cases h
theorem Stp.field {T i d off n:Nat}{g:Bool}{x:Operand}{cs:List V}{v:V}(ho:o.op=.field T x i)(hd:o.dst=some d)(hn:Nat.ble (d+1) C.n=true)(hx:σ.opd x=some (.agg cs))(hT:Qol P T i=some (off,g,n))
  (hv:(bif g then some (.agg ((cs.drop off).take n))else cs[off]?)=some v):Stp P C o σ (σ.put d v):=by
 refine Stp.same hd hn fun φ a w hr=>?_
 obtain⟨fs,f,hu,hf,rfl,hg,hsz⟩:=Qth hT
 obtain⟨xs,he,hs,hc⟩:=(hr.opd hx).agg_inv
 cases g with
 | true=>
  cases hv
  refine⟨.agg (xs.extract f.offset (f.offset+n)),?_,.agg _ _ (by simp;omega) fun j x v hj hv=>?_⟩
  ·simp only [execOp,ho,he,Instr.field,Sem.run_bind,run_underlying hu,Result.andThen_ok,hf,part,asAgg,Sem.run_pure,Qmj hg,if_true,Qm6 hsz]
  ·rw [Array.getElem?_extract]at hj
   split at hj
   ·rw [List.getElem?_take]at hv
    split at hv
    ·rw [List.getElem?_drop]at hv;exact hc _ x v hj hv
    ·cases hv
   ·cases hj
 | false=>
  simp only [cond_false]at hv
  have hlt:f.offset<xs.size:=by rw [hs];exact(List.getElem?_eq_some_iff.1 hv).1
  refine⟨xs[f.offset],?_,hc _ _ v (Array.getElem?_eq_getElem hlt) hv⟩
  simp [execOp,ho,he,Instr.field,Sem.run_bind,run_underlying hu,hf,part,asAgg,Qmj hg,hlt]
theorem QtO : ∀(ms:List (Option Nat)) (cs:List V),(denL ms cs).length=cs.length:=by
 intro ms
 induction ms with
 | nil=>intro cs;cases cs<;>rfl
 | cons m ms ih=>intro cs;cases cs with
  | nil=>rfl
  | cons c cs=>simp [denL,ih]
theorem Dat.den1 {I:Nat→Prop}{w:World}{x:Value}{v:V}{m:Option Nat}(h:Dat I w x v):Dat I w x (Vm.den1 m v):=by
 unfold Vm.den1
 split
 ·cases h;exact .sl0 _ _ _
 ·exact h
theorem Quq {m:Option Nat}{v:V}(h:v.one=true):(Vm.den1 m v).one=true:=by
 unfold Vm.den1
 split
 ·rfl
 ·exact h
theorem R.denilA {b z:Nat}{rs:List (List V)}{ms:List (Option Nat)}(hb:look σ.hp b=some (.arr z rs))(h:R C σ a w):R C (σ.set b (.arr z (rs.map (denL ms)))) a w:=by
 obtain⟨φ,hr⟩:=h
 have hden:∀(ms:List (Option Nat)) (r:List V),(∀v∈r,v.one=true)→∀v∈denL ms r,v.one=true:=by
  intro ms
  induction ms with
  | nil=>intro r hr;cases r<;>exact hr
  | cons m ms ih=>intro r hr;cases r with
   | nil=>exact hr
   | cons c r=>
    intro v hv
    rcases List.mem_cons.1 hv with rfl | hv
    ·exact Quq (hr c List.mem_cons_self)
    ·exact ih r (fun v hv=>hr v (List.mem_cons_of_mem _ hv)) v hv
 by_cases hne:rs=[]
 ·subst hne
  exact⟨φ,hr.sayOb (ob':=.arr z []) hb (fun _ _ h=>h) (.inl rfl)⟩
 ·refine⟨φ,hr.sayOb hb (fun B hB hrep=>?_) (.inr fun z' e=>by cases e;exact hne rfl)⟩
  obtain⟨h1,h2,h3,cs,E,h4,h5,h6⟩:=hrep
  refine⟨h1,by simpa using h2,fun r hr'=>?_,cs,E,h4,h5,fun i r hi j v hj=>?_⟩
  ·obtain⟨r0,hr0,rfl⟩:=List.mem_map.1 hr'
   exact⟨by rw [QtO];exact(h3 r0 hr0).1,hden _ _ (h3 r0 hr0).2⟩
  ·rw [List.getElem?_map]at hi
   obtain⟨r0,hi0,rfl⟩:=Option.map_eq_some_iff.1 hi
   obtain⟨m,v',hv',rfl⟩:=Qly _ _ j v hj
   obtain⟨x,hx,hD⟩:=h6 i r0 hi0 j v' hv'
   exact⟨x,hx,hD.den1⟩
theorem AK.denilA {Q:Exit→St→Prop}{pt:Pt}{ks:List Fr}{b z:Nat}{rs us:List (List V)}(ms:List (Option Nat))(hb:look σ.hp b=some (.arr z rs))(he:rs.map (denL ms)=us)(k:AK P C Q pt ks (σ.set b (.arr z us))):AK P C Q pt ks σ:=by
 subst he
 exact AK.weaken (fun a w h=>R.denilA hb h) k
theorem Qsh {α:Type}{f:α→List V}{n:Nat}{x:α}{r:List V}{ms:List (Option Nat)}(h:denL ms r=f x):(List.replicate n r).map (denL ms)=(List.replicate n x).map f:=by simp [h]
end
theorem atJ0 {p:Prop}{f:Code→Prop}{q:Nat}(h:(q==0)=true)(k:p):atJ p f (jmp q):=by rw [eq_of_beq h];exact k
theorem atJ2 {p:Prop}{f:Code→Prop}{q:Nat}(h:(q==2)=true)(k:f .ret):atJ p f (jmp q):=by rw [eq_of_beq h];exact k
def rfs : Code→List (Array Tmp×Code×Code)
 | .seq x y=>rfs x++rfs y
 | .cond _ x y=>rfs x++rfs y
 | .block _ x=>rfs x
 | .loop x=>rfs x
 | .rangeFunc _ ps a b=>[(ps,a,b)]
 | _=>[]
def rfOf (f:Func)(k fn:Nat):Qga:=match f.body with
 | some c=>match (rfs c)[k]? with
  | some (ps,a,b)=>⟨fn,ps,a,b⟩
  | none=>⟨fn,#[],.skip,.skip⟩
 | none=>⟨fn,#[],.skip,.skip⟩
def yV (P:Program)(σ:St)(l d:Nat)(K:Qga)(vs:List V)(M N:List (Nat×Nat))(dead:List Nat)(ms:List Mode)(outs:List (Nat×Ob))(r:V):Option (St×Prop):=
 bif QcR σ M N dead outs&&Qgk (M.map Prod.fst)&&Qgk (N.map Prod.fst)then match QjE (bkM M) ms vs with
  | some us=>match obsM (bkM M) (look σ.hp) M with
   | some hsC=>match obsM (bkM N) (look outs) N with
    | some hsN=>match trV (bkM N) r with
     | some r'=>some ((σ.after dead hsN).put d r',QkO P l K us hsC (Gives r outs))
     | none=>none
    | none=>none
   | none=>none
  | none=>none
 else none
section
variable {P:Program}{C:Ctx}{σ σ':St}{o:Oper}
theorem Stp.yieldV {d b l:Nat}{K:Qga}{cs:List V}{q:Nat}{x:Operand}{as:Array Operand}{ts:Array TypeId}{M N:List (Nat×Nat)}{dead:List Nat}{outs:List (Nat×Ob)}{vs us:List V}{ms:List Mode}{r:V}{φ:Prop}(ho:o.op=.call { callee:=.value x,args:=as,argTypes:=ts })
  (hx:σ.opd x=some (.clo (.yield l) [] [])) (hlp:look σ.hp b=some (.lp l K cs q)) (hq:q=0) (ha:σ.opsV as.toList=some vs) (hps:vs.length=K.ps.size) (hd:o.dst=some d) (hn:Nat.ble (d+1) C.n=true) (hpg:C.pg P)
  (hu:Qqo cs K.ps.toList vs=us) (e:yV P σ l d K us M N dead ms outs r=some (σ',φ)) (hφ:φ):Stp P C o σ σ':=by
 unfold yV at e
 replace e:=bifS e;obtain⟨e1,e⟩:=e
 simp only [Bool.and_eq_true]at e1
 obtain⟨⟨h1,h2⟩,h3⟩:=e1
 have h2:=QbX.1 h2
 have h3:=QbX.1 h3
 have inj:injB M=true∧injB N=true:=by
  simp only [QcR,Bool.and_eq_true]at h1
  exact⟨h1.1.1.1,h1.1.1.2⟩
 have mM:∀a b,bkM M a=some b→look M b=some a:=fun a b h=>Qa3 inj.1 (Qfo h) h2
 have mN:∀a b,bkM N a=some b→look N b=some a:=fun a b h=>Qa3 inj.2 (Qfo h) h3
 split at e
 ·rename_i us hus
  split at e
  ·rename_i hsC hC
   split at e
   ·rename_i hsN hN
    split at e
    ·rename_i r' hr
     cases e
     subst hu
     exact Stp.yield ho hx hlp hq ha hps hd hn hpg h1 h2 (Qho mM hus) (Qco mM hC) hφ (Qco mN hN) (Qjr mN hr)
    ·cases e
   ·cases e
  ·cases e
 ·cases e
end
section
variable {P:Program}{C:Ctx}{φ:Nat→Option Blk}{σ:St}{a:Act}{w:World}{o:Oper}
theorem QnH {zc:Array Value}{z m i:Nat}(hz:zc.size=z)(h0:0<z)(h:i<m*z):(Builtin.zeroCells zc m).toList[i]? = zc[i % z]? := by
 have h2:i % z<zc.size:=by rw [hz];exact Nat.mod_lt _ h0
 simp only [Builtin.zeroCells,hz,Array.toList_map,Array.toList_range,List.getElem?_map,List.getElem?_range h,Option.map_some,Array.getElem!_eq_getD,Array.getD_eq_getD_getElem?,Array.getElem?_eq_getElem h2,Option.getD_some]
theorem RR.clearTail {b n l z e:Nat}{rs:List (List V)}{zs:List V}{zv:Value}{B:Blk}(hr:RR C φ σ a w)(hb:look σ.hp b=some (.arr z rs))(hrn:rs.length=n)(hB:φ b=some B)(hzs:zv.cells.toList.map Qfm=zs)(hzl:zs.length=z)(h0:0<z)(hzo:zs.all V.one=true)
  (hln:l≤n):∃w',(storeCells ⟨B.b,B.off+l*z,none⟩ (Builtin.zeroCells zv.cells (n-l)).toList).run P w=.ok () w'∧RR C φ (σ.set b (.arr z (rs.take l++List.replicate (n-l) zs))) a w':=by
 obtain⟨hz,hrl,hok,xs,E,e1,e2,e3⟩:=hr.block hB hb
 subst hz
 have hcs:zv.cells.size=B.z:=by rw [←hzl,←hzs];simp
 rw [List.all_eq_true]at hzo
 have hlen:(Builtin.zeroCells zv.cells (n-l)).toList.length=(n-l)*B.z:=by simp [Builtin.zeroCells,hcs]
 have hmul:l*B.z+(n-l)*B.z=n*B.z:=by rw [←Nat.add_mul];congr 1;omega
 have hnc:n*B.z≤B.cap*B.z:=Nat.mul_le_mul_right _ (by omega)
 have hone:∀v∈(Builtin.zeroCells zv.cells (n-l)).toList,v.oneCell'=true:=by
  intro v hv
  obtain⟨i,hi⟩:=List.mem_iff_getElem?.1 hv
  have hil:i<(n-l)*B.z:=by rw [←hlen];exact(List.getElem?_eq_some_iff.1 hi).1
  rw [QnH hcs h0 hil]at hi
  have hm:(Qfm v)∈zs:=by rw [←hzs];exact List.mem_map_of_mem (Array.mem_toList_iff.2 (Array.mem_of_getElem? hi))
  exact((Rep.dat (φ:=φ) (I:=fun _=>True) (w:=w) (Dat.const v)).oneCell (hzo _ hm)).2
 generalize hZ:(Builtin.zeroCells zv.cells (n-l)).toList=Z at hlen hone
 have hrun:=run_storeCells_at P B.b (B.off+l*B.z) E Z 0 xs w e1 (by rw [hlen];omega) hone
 simp only [Nat.add_zero]at hrun
 refine⟨_,hrun,?_⟩
 have hl1:(xs.toList.take (B.off+l*B.z)++Z++xs.toList.drop (B.off+l*B.z+Z.length)).length=xs.size:=by simp [hlen];omega
 refine hr.write hB rfl rfl rfl (by simp) (fun k hk=>setRow_other w B.b k _ hk) ⟨rfl,by simp;omega,?_,_,E,setRow_heap w B.b xs _ E _ e1,?_,?_⟩
 ·intro r' hr'
  rcases List.mem_append.1 hr' with h | h
  ·exact hok r' (List.mem_of_mem_take h)
  ·rw [List.eq_of_mem_replicate h];exact⟨hzl,hzo⟩
 ·simp only [List.size_toArray,hl1];exact e2
 ·have hI:∀k,Imm C φ w k→Imm C φ (w.setRow B.b (xs.toList.take (B.off+l*B.z)++Z++xs.toList.drop (B.off+l*B.z+Z.length)).toArray) k∧
    (w.setRow B.b (xs.toList.take (B.off+l*B.z)++Z++xs.toList.drop (B.off+l*B.z+Z.length)).toArray).heap[k]? = w.heap[k]?:=
   fun k hk=>⟨⟨by simpa using hk.1,hk.2⟩,setRow_other w B.b k _ fun e=>hk.2.2 b B hB (.inl e)⟩
  intro i r hi j v hj
  by_cases hil:i<l
  ·rw [List.getElem?_append_left (by simp;omega),List.getElem?_take,if_pos hil]at hi
   obtain⟨y,hy,hD⟩:=e3 i r hi j v hj
   have hjz:j<B.z:=by rw [←(hok r (List.mem_of_getElem? hi)).1];exact(List.getElem?_eq_some_iff.1 hj).1
   have hlt:i*B.z+j<l*B.z:=by
    have:(i+1)*B.z≤l*B.z:=Nat.mul_le_mul_right _ hil
    rw [Nat.add_mul]at this;omega
   refine⟨y,?_,hD.mono hI⟩
   have hyl:=(Array.getElem?_eq_some_iff.1 hy).1
   rw [List.getElem?_toArray,List.append_assoc,List.getElem?_append_left (by simp;omega),List.getElem?_take,if_pos (by omega)];simpa using hy
  ·rw [List.getElem?_append_right (by simp;omega)]at hi
   simp only [List.length_take,hrn,Nat.min_eq_left hln]at hi
   rw [List.getElem?_replicate]at hi
   split at hi
   ·rename_i hin
    cases hi
    have hjz:j<B.z:=by rw [←hzl];exact(List.getElem?_eq_some_iff.1 hj).1
    rw [←hzs,List.getElem?_map]at hj
    obtain⟨y,hy,rfl⟩:=Option.map_eq_some_iff.1 hj
    refine⟨y,?_,Dat.const y⟩
    have hidx:(i-l)*B.z+j<(n-l)*B.z:=by
     have:(i-l+1)*B.z≤(n-l)*B.z:=Nat.mul_le_mul_right _ hin
     rw [Nat.add_mul]at this;omega
    have hsum:i*B.z=l*B.z+(i-l)*B.z:=by rw [←Nat.add_mul];congr 1;omega
    rw [List.getElem?_toArray,List.append_assoc,List.getElem?_append_right (by simp;omega),List.getElem?_append_left (by simp [hlen];omega)]
    have:B.off+(i*B.z+j)-(xs.toList.take (B.off+l*B.z)).length=(i-l)*B.z+j:=by simp;omega
    rw [this,←hZ,QnH hcs h0 hidx]
    have hm:((i-l)*B.z+j) % B.z=j:=by rw [Nat.add_comm,Nat.add_mul_mod_self_right,Nat.mod_eq_of_lt hjz]
    rw [hm];simpa using hy
   ·cases hi
theorem AK.clearTail {Q:Exit→St→Prop}{ks:List Fr}{ops:Array Oper}{rest:List Oper}{o1 o2:Oper}{T d b n l z e by_:Nat}{x lo:Operand}{rs us:List (List V)}{zs:List V}(hg1:o1.guard=none)(hg2:o2.guard=none)
  (ho1:o1.op=.slice T x (some lo) none none) (hd1:o1.dst=some d) (ho2:o2.op=.call { callee:=.builtin .clear,args:=#[.tmp d],argTypes:=#[T] }) (hd2:o2.dst=none) (hn:Nat.ble (d+1) C.n=true)
  (hx:σ.opd x=some (.own b n)) (hb:look σ.hp b=some (.arr z rs)) (hrn:rs.length=n) (hT:Qax P T=some (e,z,by_)) (hz:Qap P e=some zs) (hzl:zs.length=z) (h0:Nat.ble 1 z=true) (hzo:zs.all V.one=true) (hl:Bnd σ 0 (some lo) l) (hln:l≤n)
  (hu:rs.take l++List.replicate (n-l) zs=us) (k:AK P C Q (.o ops rest) ks ((σ.set b (.arr z us)).put d .J)):AK P C Q (.o ops (o1::o2::rest)) ks σ:=by
 intro a w ⟨φ,hr⟩
 subst hu
 have h0:=Nat.le_of_ble_eq_true h0
 obtain⟨hu,i,hi',hiz,_⟩:=QbW hT
 obtain⟨i',zv,hi2,hz',hzs⟩:=QgN hz
 have key:∃x1 w',(execOp a.eval o1).run P w=.ok (.value x1) w∧(Builtin.clear_ #[T] o2.type #[x1]).run P w=.ok (.tuple #[]) w'∧RR C φ (σ.set b (.arr z (rs.take l++List.replicate (n-l) zs))) a w':=by
  rcases(hr.opd hx).own_inv with⟨he,rfl⟩|⟨B,hB,hcap,he⟩
  ·have l0:l=0:=by omega
   subst l0
   have:rs=[]:=List.length_eq_zero_iff.1 hrn
   subst this
   refine⟨.slice none 0 0,w,?_,?_,hr.sayOb (ob':=.arr z []) hb (fun _ _ h=>h) (.inl rfl)⟩
   ·have hbn:=Qih (P:=P) (b:=true) hr hl (.no (dflt:=0)) (by omega) (by omega:0≤0)
    simp only [Option.map_some,Option.map_none]at hbn
    simp [execOp,ho1,he,Instr.sliceAt,Instr.slice,run_underlying hu,hbn,sizeOf,typeInfo,hi']
   ·simp [Builtin.clear_,run_underlying hu]
  ·have hbn:=Qih (P:=P) (b:=true) hr hl (.no (dflt:=n)) hln (by omega:n≤B.cap)
   simp only [Option.map_some,Option.map_none]at hbn
   by_cases hcl:B.cap=l
   ·have hln2:n-l=0:=by omega
    refine⟨.slice (some ⟨B.b,B.off,none⟩) 0 0,w,?_,?_,?_⟩
    ·simp only [execOp,ho1,he,Instr.sliceAt,Instr.slice,run_underlying hu,hbn,sizeOf,typeInfo,hi',Sem.run_bind,Sem.run_pure,run_program,Result.andThen_ok,Option.map_some,Option.map_none]
     simp [hcl];omega
    ·simp [Builtin.clear_,run_underlying hu]
    ·rw [hln2,List.replicate_zero,List.append_nil,List.take_of_length_le (by omega)]
     exact hr.sayOb hb (fun _ _ h=>h) (.inl rfl)
   ·obtain⟨w',hw,hr'⟩:=hr.clearTail (P:=P) (l:=l) (e:=e) hb hrn hB hzs hzl h0 hzo hln
    refine⟨.slice (some ⟨B.b,B.off+l*z,none⟩) (n-l) (B.cap-l),?_⟩
    have hex:(execOp a.eval o1).run P w=.ok (.value (.slice (some ⟨B.b,B.off+l*z,none⟩) (n-l) (B.cap-l))) w:=by
     simp only [execOp,ho1,he,Instr.sliceAt,Instr.slice,run_underlying hu,hbn,sizeOf,typeInfo,hi',Sem.run_bind,Sem.run_pure,run_program,Result.andThen_ok,Option.map_some,Option.map_none,if_neg hcl,hiz,Addr.add_lit]
    by_cases hnl:n-l=0
    ·refine⟨w,hex,?_,?_⟩
     ·rw [hnl];simp [Builtin.clear_,run_underlying hu]
     ·rw [hnl,List.replicate_zero,List.append_nil,List.take_of_length_le (by omega)]
      exact hr.sayOb hb (fun _ _ h=>h) (.inl rfl)
    ·refine⟨w',hex,?_,hr'⟩
     obtain⟨m,hm⟩:∃m,n-l=m+1:=⟨n-l-1,by omega⟩
     rw [hm]at hw ⊢
     rw [hi2]at hi';cases hi'
     simp only [Builtin.clear_,Sem.run_bind,run_underlying hu,Result.andThen_ok,Sem.run_pure,zeroValue,typeInfo,run_program,hi2,hz',List.getElem?_toArray,List.getElem?_cons_zero]
     simp [hw,hz']
 obtain⟨x1,w',hex,hcl,hr'⟩:=key
 have hput:∀t,(a.put (some d) x1).tmps[t]? = if t=d then(if d<a.tmps.size then some x1 else none)else a.tmps[t]? := fun t=>by
  simp only [Act.put,Array.getElem?_setIfInBounds]
  by_cases e:d=t
  ·subst e;simp
  ·simp [e,Ne.symm e]
 have hev:(a.put (some d) x1).eval (.tmp d)=x1:=by
  have hlt:d<a.tmps.size:=by rw [hr.tmps];exact QS hn
  simp [Act.eval,Act.put,Array.getD_eq_getD_getElem?,Array.getElem?_setIfInBounds,hlt]
 have hex2:(execOp (a.put (some d) x1).eval o2).run P w=.ok (.value (.tuple #[])) w':=by
  simp only [execOp,ho2,resolve,invoke,builtin,Sem.run_bind,Sem.run_pure,Result.andThen_ok,List.map_toArray,List.map_cons,List.map_nil,hev,hcl]
 show wpListIn C.F 0 P ops (up C (unw P C Q ks)) (o1::o2::rest) a w
 simp only [wpListIn,Region.wanted,hg1,if_true]
 refine⟨fun _ _=>trivial,?_⟩
 rw [Qqb hex,Oper.uponIn_value,hd1]
 simp only [wpListIn,Region.wanted,hg2,if_true]
 refine⟨fun _ _=>trivial,?_⟩
 rw [Qqb hex2,Oper.uponIn_value,hd2]
 exact k _ _ ⟨φ,hr'.put (QS hn) (.dat (.J x1))⟩
theorem Qvl {α:Type}{f:α→List V}{e:List α}{l k:Nat}{zs:List V}{x:α}{ms:List (Option Nat)}(h1:∀y,denL ms (f y)=f y)(h2:denL ms zs=f x):((e.map f).take l++List.replicate k zs).map (denL ms)=(e.take l++List.replicate k x).map f:=by
 have h3:denL ms∘f=f:=funext h1
 simp [List.map_take,h2,h3]
theorem QtP {α:Type}{b l:Nat}{e:List α}{x:α}(h:l≤e.length):V.own b e.length=V.own b (e.take l++List.replicate (e.length-l) x).length:=by
 congr 1;simp;omega
end
end Go.Vm
