/- A part of the proof. -/
import Derived.Test.YtomnpnjhfpdcmaaGreatDoorT4V2
import Derived.RangeFuncIn
import Derived.Shelf.Sort.Plain
import Derived.Shelf.Slices.In.SortNone
import Derived.Laws.BytesString
import Derived.Shelf.Slices.CompactI
import Derived.Shelf.Strings.Fields
import Derived.Test.YtomnpnjhfpdcmaaGreatDoorT4V2
import Derived.Carry
import Derived.ReadAgain
import Derived.OpenShut
import GoSem.ClaimJoined
import Derived.Lib.LaidTab
import Derived.LaidMore
import Derived.MakeChecks
import Derived.Stop.LaidErr
import Derived.Stop.Joined
import Derived.SizedLaws
import Derived.Handed
import Derived.Shelf.Spec.SlicesInsertGrow
set_option linter.all false
namespace Go.Vm
open Go Go.RowKit
def Qig (h:L_ V):L_ Tmp->L_ V->L_ V
 | p::D,v::vs=>Qig (h.set p v) D vs
 | _,_=>h
def Qo8 {φ:Nat->O_ Xa}{I:Nat->Prop}{w:World}:∀(ps:L_ Tmp) (h:L_ Value) (vs:L_ V) (D:Array Value) (cs:L_ V),h.length=vs.length->D.size=cs.length->
  (∀(j:Nat) x v,D[j]? = some x->cs[j]? = some v->QT φ I w x v)->(∀(j:Nat) x v,h[j]? = some x->vs[j]? = some v->QT φ I w x v)->
  ((ps.zip h).foldl (λD p=>D.setIfInBounds p.1 p.2) D).size=(Qig cs ps vs).length/\∀(j:Nat) x v,((ps.zip h).foldl (λD p=>D.setIfInBounds p.1 p.2) D)[j]? = some x->(Qig cs ps vs)[j]? = some v->QT φ I w x v:=by
 intro ps
 induction ps with
 | nil=>intro h vs D cs _ h2 h3 _;cases vs<;>exact⟨h2,h3⟩
 | cons p ps ih=>
  intro h vs D cs h1 h2 h3 h4
  cases h with
  | nil=>cases vs with
   | nil=>exact⟨h2,h3⟩
   | cons=>cases h1
  | cons y h=>cases vs with
   | nil=>cases h1
   | cons v vs=>
    refine ih h vs (D.setIfInBounds p y) (cs.set p v) (by simpa using h1) (by simpa using h2) (λj x u hx hu=>?_) λj x u hx hu=>h4 (j+1) x u hx hu
    by_cases e:p=j
    ·subst e
     rw[Array.getElem?_setIfInBounds_self]at hx
     rw[List.getElem?_set_self']at hu
     split at hx
     ·rename_i hlt
      cases hx
      rw[Qy (by omega)]at hu
      cases hu
      exact h4 0 _ _ rfl rfl
     cases hx
    rw[QlW e]at hx
    rw[QeI e]at hu
    exact h3 j x u hx hu
def Sv (P:Program)(l:Nat)(K:Cg)(us:L_ V)(hs:H_)(post:V->H_->Prop):Prop:=
 ∀(S:Nat->Prop) (φ:Nat->O_ Xa) (w:World) (h:Array Value),Ins S φ w h us hs->SJ P S w->
  RoundIn Fence.wide 0 P l K.fn h K.assign K.body w λe w'=>∃x v D φ',e=.returned x/\post v D/\Outs S φ w φ' w' x v D
def QrQ {C:Xx}{n:Nat}{P:Program}{l:Nat}{f:FuncId}{tmps:Array Value}{assign body:Code}{w:World}{R:Ending->World->Prop}(h:RoundIn Fence.wide 0 P l f tmps assign body w R):RoundIn C.F n P l f tmps assign body w R:=
 ⟨trivial,λc D _=>h.2 c D (room_wide _)⟩
section
variable {P:Program}{C:Xx}{φ:Nat->O_ Xa}{σ:St}{a:Act}{w:World}{o:Oper}
def RR.lp (h:RR C φ σ a w){b l:Nat}{K:Cg}{D:L_ V}{q:Nat}(hb:look σ.hp b=some (.lp l K D q)):∃B,φ b=some B/\Qq4 φ (Xl C φ w) w B l K D q:=by
 rcases h.heap b _ hb with h | ⟨_,h⟩
 ·exact h
 exact h.elim
def RR.lpSet (h:RR C φ σ a w){b l:Nat}{K:Cg}{cs:L_ V}{q q':Nat}(hb:look σ.hp b=some (.lp l K cs q)):
  ∃r:Loop,w.heap[l]? = some (.loop r)/\r.state=lst q/\r.pending=jmp q/\RR C φ (σ.set b (.lp l K cs q')) a (w.putObj l (.loop { r with state:=lst q',pending:=jmp q' })):=by
 obtain⟨B,hB,tmps,D,rfl,h1,h2,h3,h4⟩:=h.lp hb
 refine⟨_,h2,rfl,rfl,?_⟩
 have hlt:=(h.lt b B B.b hB B.self).1
 have hk:∀k,k≠B.b->(w.putObj B.b (.loop { state:=lst q',pending:=jmp q',fn:=K.fn,tmps,params:=K.ps,assign:=K.assign,body:=K.body,defers:=D })).heap[k]? = w.heap[k]? := λk hk=>World.putObj_heap_other hk
 refine h.write hB rfl rfl rfl World.putObj_size hk ⟨tmps,D,rfl,h1,World.putObj_heap_same hlt,h3,λj x v hx hv=>?_⟩
 refine(h4 j x v hx hv).mono (λ_ _ h=>h) λk hk'=>⟨⟨by rw[World.putObj_size];exact hk'.1,hk'.2⟩,hk k λe=>hk'.2.2 b B hB (.inl e)⟩
def Ql.yield {d b l:Nat}{K:Cg}{cs:L_ V}{q:Nat}{x:Operand}{ags:Array Operand}{ts:Array TypeId}{M N:L_ (Nat×Nat)}{dead:L_ Nat}{hsC outs hsN:H_}{vs us:L_ V}{r r':V}(ho:o.op=.call { callee:=.value x,args:=ags,argTypes:=ts })
  (hx:σ.opd x=some (.clo (.yield l) [] [])) (hlp:look σ.hp b=some (.lp l K cs q)) (hq:q=0) (ha:σ.opsV ags.toList=some vs) (hps:vs.length=K.ps.size) (hd:o.dst=some d) (hn:B_ d C) (hpg:C.pg P)
  (hnm:GI σ M N dead outs=true) (hnd:(M.map Prod.fst).Nodup)
  (hv:Vws σ.hp false false (Uo M) (λa b=>look M b=some a) (Qig cs K.ps.toList vs) us) (hobs:Mo σ.hp false false (Uo M) (λa b=>look M b=some a) σ.hp M hsC)
  (hc:Sv P l K us hsC (Gives r outs)) (hback:Mo [] false false [] (λc b=>look N b=some c) outs N hsN) (hr':Vw [] false false [] (λc b=>look N b=some c) r r'):
  Ql P C o σ ((σ.after dead hsN).put d r'):=by
 intro a w ⟨φ,hr⟩ next Q hnext
 subst hq
 have hN:=Names.of hnm hnd
 refine⟨λ_ _=>trivial,?_⟩
 obtain⟨h1,h2⟩:=hr.opsV _ _ ha
 obtain⟨xs,ys,hev,e1,e2,_,_⟩:=(hr.opd hx).clo_inv
 have e1:xs=#[]:=QnI e1
 have e2:ys=#[]:=QnI e2
 subst e1;subst e2
 obtain⟨B,hB,tmps,D,e0,_,hh,hsz,hrep⟩:=hr.lp hlp
 have hl1:(ags.toList.map a.eval).length=vs.length:=by simpa using h1
 obtain⟨s1,s2⟩:=Qo8 (φ:=φ) (I:=Xl C φ w) (w:=w) K.ps.toList (ags.toList.map a.eval) vs tmps cs hl1 hsz hrep (λj x v hx hv=>by
  simp only[Yf,XW]at hx
  obtain⟨y,hy,rfl⟩:=hx
  exact h2 j y v hy hv)
 have hsize:(ags.map a.eval).size=K.ps.size:=by rw[<-hps,<-hl1];simp
 have hfold:(K.ps.zip (ags.map a.eval)).foldl (λtmps (t,a)=>tmps.setIfInBounds t a) tmps=(K.ps.toList.zip (ags.toList.map a.eval)).foldl (λtm p=>tm.setIfInBounds p.1 p.2) tmps:=by
  rw[<-Array.foldl_toList];simp
 have hex:(execOp a.eval o).run P w=.ok (.round l K.fn ((K.ps.toList.zip (ags.toList.map a.eval)).foldl (λtm p=>tm.setIfInBounds p.1 p.2) tmps).toList.toArray K.assign K.body) w:=by
  simp only[execOp,ho,resolve,Xh,hev,Deferred.ofValue,Xw,Xq,invoke,Array.empty_append]
  rw[run_yield hh hsize,hfold]
 rw[Oper.semAt_eq _ _ _ (by rw[ho];intro c hc;cases hc),hex,Oper.uponIn_round]
 refine⟨(λh=>by cases h),QrQ ((hc _ _ w _ (Ins.of_vals hr (by simpa using s1) (λj x v hx hv=>s2 j x v (by simpa using hx) hv) hN.injM hN.param hv hobs) ((hr.glob hpg).mono λ_ h=>.inl h)).mono ?_)⟩
 rintro e w' ⟨x,v,hs',φ',rfl,⟨rfl,hso⟩,hout⟩
 obtain⟨h3,h4⟩:=hr.after hN hout hso (λc s h=>by
  obtain⟨ob',e1⟩:=hobs.get.2 c s h
  obtain⟨s',ob,e2,e3,_⟩:=hobs.get.1 c ob' e1
  rw[h]at e2;cases e2;exact⟨ob,e3⟩) hback
 refine hnext _ _ ⟨Mp φ M N dead φ',?_⟩
 rw[hd]
 exact h3.put (XE hn) (h4 hr')
def QrR (b l:Nat)(K:Cg)(h:V->H_->Prop):Exit->St->Prop
 | .normal,σ=>∃D,look σ.hp b=some (.lp l K D 1)/\h (.b true) ((b,.lp l K D 0)::σ.hp)
 | .ret,σ=>∃D,look σ.hp b=some (.lp l K D 1)/\h (.b false) ((b,.lp l K D 2)::σ.hp)
 | .exit k,σ=>∃D,look σ.hp b=some (.lp l K D 1)/\h (.b false) ((b,.lp l K D (k+3))::σ.hp)
 | _,_=>False
def Sv.walk {b l:Nat}{K:Cg}{us:L_ V}{hs:H_}{post:V->H_->Prop}(n:Nat)(hn:us.length=n)(hle:Nat.ble n 620=true)
  (h:∀C:Xx,JB P C n->AK P C (λe σ=>e=.normal/\∃cs,look σ.hp b=some (.lp l K cs 0)/\AK P C (QrR b l K post) (.c K.body) [] (σ.set b (.lp l K cs 1))) (.c K.assign) [] ⟨NM 0 us,hs⟩):Sv P l K us hs post:=by
 intro S φ w vals hi hG
 let C:Xx:=⟨w,S,λk=>∃o B,φ o=some B/\B.has k,n,φ,Ke hle,some l⟩
 have hF:Fence.wide.inRound l=C.F:=rfl
 have hI:∀k,S k->Xl C φ w k/\w.heap[k]? = w.heap[k]? := λk hk=>⟨⟨hi.lt k hk,λ_=>hk,λo B hB e=>((hi.dom o B hB).2.1 k e).2 hk⟩,rfl⟩
 have hR:R C ⟨NM 0 us,hs⟩ { tmps:=vals,defers:=[] } w:=by
  refine⟨φ,rfl,rfl,rfl,YY _,λ_ _ _=>rfl,hi.inj,λo B hB=>(hi.dom o B hB).2.2,λo B k hB hk=>⟨((hi.dom o B hB).2.1 k hk).1,λ_=>⟨o,B,hB,hk⟩⟩,λo B k hB hk hlt=>absurd (hi.dom o B hB).1 (by omega),⟨λ_ _ _ h=>h,λ_ _ _ _ _ h=>h⟩,
   by show vals.size=n;rw[hi.size,hn],⟨[],rfl,List.nodup_nil,λ_ h=>by cases h⟩,λt v hv=>?_,λo ob hob=>?_⟩
  ·obtain⟨_,h2⟩:=QkW us 0 t v hv
   rw[Nat.sub_zero]at h2
   have hlt:t<vals.size:=by rw[hi.size];exact(Xj.1 h2).1
   exact⟨vals[t],EX hlt,(hi.args t _ v (EX hlt) h2).mono (λ_ _ h=>h) hI⟩
  rcases hi.heap o ob hob with⟨B,hB,hr⟩|hn
  ·exact .inl ⟨B,hB,hr.mono (λ_ _ h=>h) hI λ_ _=>rfl⟩
  exact .inr hn
 refine roundIn_of_wpIn trivial ?_
 rw[hF]
 refine wpIn_mono (h C ⟨rfl,hG,λg hg ⟨o,B,hB,hb⟩=>((hi.dom o B hB).2.1 g hb).2 (hG g hg).1⟩ _ _ hR) ?_
 rintro e a1 w1 ⟨σ1,⟨rfl,cs,hlp,hbody⟩,φ1,hr1⟩
 obtain⟨r,g1,g2,g3,g4⟩:=hr1.lpSet (q':=1) hlp
 refine⟨_,run_beginRound g1 g2,?_⟩
 have hbusy:({ r with state:=LoopState.busy }:Loop)={ r with state:=lst 1,pending:=jmp 1 }:=by
  rw[show jmp 1=r.pending from g3.symm];rfl
 rw[hbusy]
 refine wpIn_mono (hbody _ _ ⟨φ1,g4⟩) ?_
 rintro e a2 w2 ⟨σ2,hq,φ2,hr2⟩
 have fin:∀(D:O_ Code) (q:Nat) (cs2:L_ V),look σ2.hp b=some (.lp l K cs2 1)->jmp q=D->(if D.isNone then LoopState.ready else LoopState.done)=lst q->post (.b D.isNone) ((b,.lp l K cs2 q)::σ2.hp)->
   ∃v w',(Instr.endRound l D).run P w2=.ok v w'/\∃x v' hs' φ',Ending.returned v=.returned x/\post v' hs'/\Outs S φ w φ' w' x v' hs':=λD q cs2 hl2 hj hst hp=>by
  obtain⟨r2,k1,_,_,k4⟩:=hr2.lpSet (q':=q) hl2
  refine⟨_,_,run_endRound D k1,.bool D.isNone,.b D.isNone,_,φ2,rfl,hp,?_⟩
  rw[hst,<-hj]
  exact⟨k4.os,k4.tape,k4.output,k4.size,λk hk hne=>k4.kept k hk (λ⟨o,B,hB,e⟩=>hne o B hB e),k4.inj,k4.dom,
   λo B k hB hk=>⟨(k4.lt o B k hB hk).1,λhlt=>(k4.lt o B k hB hk).2 hlt⟩,k4.new,k4.stay,.dat (.b _),k4.heap⟩
 cases e with
 | normal=>obtain⟨cs2,hl2,hp⟩:=hq;exact fin none 0 cs2 hl2 rfl rfl hp
 | ret=>obtain⟨cs2,hl2,hp⟩:=hq;exact fin (some .ret) 2 cs2 hl2 rfl rfl hp
 | exit k=>obtain⟨cs2,hl2,hp⟩:=hq;exact fin (some (.exit k)) (k+3) cs2 hl2 rfl rfl hp
 | _=>exact hq.elim
def RR.mark (h:RR C φ σ a w):RR C φ σ { a with defers:={ target:=.collected w.heap.size,args:=#[] }::a.defers } (w.alloc (.deferred (some []))):=by
 have hs:=h.step (w':=w.alloc (.deferred (some []))) rfl rfl rfl (by simp) (λk hk=>Below.heap_alloc w _ k hk)
 refine⟨hs.os,hs.tape,hs.output,hs.size,hs.kept,hs.inj,hs.dom,hs.lt,hs.new,hs.stay,hs.tmps,?_,hs.frame,hs.heap⟩
 obtain⟨Ds,h1,h2,h3⟩:=hs.defers
 obtain⟨Ds',h1',h2',h3'⟩:=h.defers
 refine⟨w.heap.size::Ds',by simp[h1'],Nn.2 ⟨λhm=>absurd (h3' _ hm).2.1.1 (by omega),h2'⟩,λD hD=>?_⟩
 rcases Yw.1 hD with rfl | hD
 ·refine⟨h.size,⟨by simp,λhlt=>absurd h.size (by omega),λo B hB hh=>absurd (h.lt o B _ hB hh).1 (by omega)⟩,World.alloc_heap_new w _⟩
 obtain⟨a1,a2,a3⟩:=h3' D hD
 exact⟨a1,⟨by have:=a2.1;simp;omega,a2.2⟩,(Below.heap_alloc w _ D a2.1).trans a3⟩
def RR.killTo (h:RR C φ σ a w){b:Nat}{B:Xa}(D:φ b=some B){w':World}(ho:w'.os=w.os)(ht:w'.tape=w.tape)(hu:w'.output=w.output)(hs:w'.heap.size=w.heap.size)(hk:∀k,k≠B.b->w'.heap[k]? = w.heap[k]?):RR C (UG φ b) (σ.kill b) a w':=by
 have hI:∀k,Xl C φ w k->Xl C (UG φ b) w' k/\w'.heap[k]? = w.heap[k]? := λk hk'=>⟨⟨by rw[hs];exact hk'.1,hk'.2.1,λo B' hB'=>hk'.2.2 o B' (KD hB').2⟩,hk k λe=>hk'.2.2 b B D (.inl e)⟩
 have hφ:∀o B,o≠b->φ o=some B->UG φ b o=some B:=λo B ho D=>by rw[Gu ho];exact D
 refine⟨ho.trans h.os,ht.trans h.tape,hu.trans h.output,by rw[hs];exact h.size,λk h1 h2=>(hk k λe=>h2 ((h.lt b B k D (.inl e)).2 h1)).trans (h.kept k h1 h2),λo o' B B' k h1 h2=>h.inj o o' B B' k (KD h1).2 (KD h2).2,?_,λo B k D=>by rw[hs];exact h.lt o B k (KD D).2,λo B k D=>h.new o B k (KD D).2,
  ⟨λo B h1 D=>h.stay.1 o B h1 (KD D).2,λo ob B h1 ho D=>by obtain⟨hne,ob',h2,_⟩:=JS _ _ _ ho;rw[Gu hne];exact h.stay.2 o ob' B h1 h2 D⟩,h.tmps,h.defers.mono hI,?_,?_⟩
 ·intro o B D
  obtain⟨h1,h2⟩:=KD D
  obtain⟨ob,hob⟩:=h.dom o B h2
  exact⟨_,GO _ _ _ h1 hob⟩
 ·intro t v hv
  obtain⟨v',hv',rfl⟩:=MS _ _ _ hv
  obtain⟨x,hx,hr⟩:=h.frame t v' hv'
  exact⟨x,hx,hr.kill hφ hI⟩
 intro o ob hob
 obtain⟨hne,ob',hob',rfl⟩:=JS _ _ _ hob
 rcases h.heap o ob' hob' with⟨B',hB',hr⟩|⟨h1,hz⟩
 ·exact .inl ⟨B',hφ o B' hne hB',hr.kill hφ hI λk hk'=>hk k λe=>hne (h.inj o b B' B k hB' D hk' (.inl e))⟩
 exact .inr ⟨by rw[Gu hne];exact h1,hz.kill⟩
def snap (h:L_ Nat)(fr:S_)(n:Nat):L_ V:=(List.range n).map λt=>bif XK h t then(match look fr t with
 | some v=>v
 | none=>.J)else .J
def RR.snap {ts:L_ Nat}(h:RR C φ σ a w):∀(j:Nat) x v,a.tmps[j]? = some x->(snap ts σ.fr C.n)[j]? = some v->QT φ (Xl C φ w) w x v:=by
 intro j x v hx D
 simp only[Vm.snap,Yf,XW]at D
 obtain⟨t,ht,rfl⟩:=D
 obtain⟨_,rfl⟩:=Xj.1 ht
 simp only[TB]at *
 cases hm:XK ts j with
 | false=>exact .dat (.J _)
 | true=>
 simp only[Qz]
 split
 ·rename_i v D
  obtain⟨y,hy,hr⟩:=h.frame _ _ D
  rw[hx]at hy;cases hy;exact hr
 exact .dat (.J _)
def rgV (P:Program)(σ:St)(f:Nat)(vs:L_ V)(M N:L_ (Nat×Nat))(dead:L_ Nat)(ms:L_ Mode)(outs:H_)(r:V):O_ (St×Prop):=
 bif GI σ M N dead outs&&Cw (M.map Prod.fst)&&Cw (N.map Prod.fst)then match OZ (Ei M) ms vs with
  | some us=>match HF (Ei M) (look σ.hp) M with
   | some h=>match HF (Ei N) (look outs) N with
    | some D=>some (σ.after dead D,QU P f us h (Gives r outs))
    | none=>none
   | none=>none
  | none=>none
 else none
def atJ (p:Prop)(f:Code->Prop):O_ Code->Prop
 | none=>p
 | some c=>f c
end
section
variable {P:Program}{C:Xx}{φ:Nat->O_ Xa}{σ:St}{a:Act}{w:World}{o:Oper}
def QdJ (P:Program)(T:TypeId)(i:Nat):O_ (Nat×Bool×Nat):=match P.underlying T with
 | some (.struct fs)=>match fs[i]? with
  | some f=>match BR P f.type with
   | some g=>match Bg P f.type with
    | some n=>some (f.offset,g,n)
    | none=>none
   | none=>none
  | none=>none
 | _=>none
def Qn9 {T i off n:Nat}{g:Bool}(h:QdJ P T i=some (off,g,n)):∃(fs:Array Field) (f:Field),P.underlying T=some (.struct fs)/\fs[i]? = some f/\f.offset=off/\BR P f.type=some g/\Bg P f.type=some n:=by
 unfold QdJ at h
 split at h
 ·rename_i fs hu
  split at h
  ·rename_i f D
   split at h
   ·rename_i g' hg
    split at h
    ·rename_i n' hn;cases h;exact⟨fs,f,hu,D,rfl,hg,hn⟩
    cases h
   cases h
  cases h
 cases h
def Ql.field {T i d off n:Nat}{g:Bool}{x:Operand}{cs:L_ V}{v:V}(ho:o.op=.field T x i)(hd:o.dst=some d)(hn:B_ d C)(hx:σ.opd x=some (.agg cs))(hT:QdJ P T i=some (off,g,n))
  (h:(bif g then some (.agg ((cs.drop off).take n))else cs[off]?)=some v):Ql P C o σ (σ.put d v):=by
 refine Ql.same hd hn λφ a w hr=>?_
 obtain⟨fs,f,hu,hf,rfl,hg,hsz⟩:=Qn9 hT
 obtain⟨xs,he,hs,hc⟩:=(hr.opd hx).agg_inv
 cases g with
 | true=>
  cases h
  refine⟨.agg (xs.extract f.offset (f.offset+n)),?_,.agg _ _ (by simp;omega) λj x v hj h=>?_⟩
  ·simp only[execOp,ho,he,Instr.field,Xh,run_underlying hu,Xq,hf,part,asAgg,Xw,ZU hg,if_true,QbT hsz]
  rw[Array.getElem?_extract]at hj
  split at hj
  ·rw[Kd]at h
   split at h
   ·rw[Be]at h;exact hc _ x v hj h
   cases h
  cases hj
 | false=>
  simp only[Qs]at h
  have D:f.offset<xs.size:=by rw[hs];exact(Xj.1 h).1
  refine⟨xs[f.offset],?_,hc _ _ v (EX D) h⟩
  simp[execOp,ho,he,Instr.field,Xh,run_underlying hu,hf,part,asAgg,ZU hg,D]
def Qo9 : ∀(ms:L_ (O_ Nat)) (h:L_ V),(DW ms h).length=h.length:=by
 intro ms
 induction ms with
 | nil=>intro h;cases h<;>rfl
 | cons m ms D=>intro h;cases h with
  | nil=>rfl
  | cons c h=>simp[DW,D]
def XB.den1 {I:Nat->Prop}{w:World}{x:Value}{v:V}{m:O_ Nat}(h:XB I w x v):XB I w x (Vm.den1 m v):=by
 unfold Vm.den1
 split
 ·cases h;exact .sl0 _ _ _
 exact h
def Qqo {m:O_ Nat}{v:V}(h:v.one=true):(Vm.den1 m v).one=true:=by
 unfold Vm.den1
 split
 ·rfl
 exact h
def R.denilA {b z:Nat}{rs:L_ (L_ V)}{ms:L_ (O_ Nat)}(hb:look σ.hp b=some (.arr z rs))(h:R C σ a w):R C (σ.set b (.arr z (rs.map (DW ms)))) a w:=by
 obtain⟨φ,D⟩:=h
 have hden:∀(ms:L_ (O_ Nat)) (r:L_ V),(∀v∈r,v.one=true)->∀v∈DW ms r,v.one=true:=by
  intro ms
  induction ms with
  | nil=>intro r D;cases r<;>exact D
  | cons m ms ih=>intro r D;cases r with
   | nil=>exact D
   | cons c r=>
    intro v hv
    rcases Yw.1 hv with rfl | hv
    ·exact Qqo (D c XY)
    exact ih r (λv hv=>D v (Yo _ hv)) v hv
 by_cases hne:rs=[]
 ·subst hne
  exact⟨φ,D.sayOb (ob':=.arr z []) hb (λ_ _ h=>h) (.inl rfl)⟩
 refine⟨φ,D.sayOb hb (λB hB hrep=>?_) (.inr λe=>hne e)⟩
 obtain⟨h1,h2,h3,cs,E,h4,h5,h6⟩:=hrep
 refine⟨h1,by simpa using h2,λr hr'=>?_,cs,E,h4,h5,λi r hi j v hj=>?_⟩
 ·obtain⟨r0,hr0,rfl⟩:=YL.1 hr'
  exact⟨by rw[Qo9];exact(h3 r0 hr0).1,hden _ _ (h3 r0 hr0).2⟩
 rw[Yf]at hi
 obtain⟨r0,hi0,rfl⟩:=XW.1 hi
 obtain⟨m,v',hv',rfl⟩:=Vi _ _ j v hj
 obtain⟨x,hx,hD⟩:=h6 i r0 hi0 j v' hv'
 exact⟨x,hx,hD.den1⟩
def AK.denilA {Q:Exit->St->Prop}{pt:Pt}{ks:L_ Fr}{b z:Nat}{rs us:L_ (L_ V)}(ms:L_ (O_ Nat))(D:look σ.hp b=some (.arr z rs))(he:rs.map (DW ms)=us)(k:AK P C Q pt ks (σ.set b (.arr z us))):AK P C Q pt ks σ:=by
 subst he
 exact AK.weaken (λa w h=>R.denilA D h) k
def Qih {α:Type}{f:α->L_ V}{n:Nat}{x:α}{r:L_ V}{ms:L_ (O_ Nat)}(h:DW ms r=f x):(List.replicate n r).map (DW ms)=(List.replicate n x).map f:=by simp[h]
end
def QrS {p:Prop}{f:Code->Prop}{q:Nat}(h:(q==0)=true)(k:p):atJ p f (jmp q):=by rw[eq_of_beq h];exact k
def Qtf {p:Prop}{f:Code->Prop}{q:Nat}(h:(q==2)=true)(k:f .ret):atJ p f (jmp q):=by rw[eq_of_beq h];exact k
def rfs : Code->L_ (Array Tmp×Code×Code)
 | .seq x y=>rfs x++rfs y
 | .cond _ x y=>rfs x++rfs y
 | .block _ x=>rfs x
 | .loop x=>rfs x
 | .rangeFunc _ h a b=>[(h,a,b)]
 | _=>[]
def QrT (f:Func)(k fn:Nat):Cg:=match f.body with
 | some c=>match (rfs c)[k]? with
  | some (h,a,b)=>⟨fn,h,a,b⟩
  | none=>⟨fn,#[],.skip,.skip⟩
 | none=>⟨fn,#[],.skip,.skip⟩
def yV (P:Program)(σ:St)(l d:Nat)(K:Cg)(vs:L_ V)(M N:L_ (Nat×Nat))(dead:L_ Nat)(ms:L_ Mode)(outs:H_)(r:V):O_ (St×Prop):=
 bif GI σ M N dead outs&&Cw (M.map Prod.fst)&&Cw (N.map Prod.fst)then match OZ (Ei M) ms vs with
  | some us=>match HF (Ei M) (look σ.hp) M with
   | some h=>match HF (Ei N) (look outs) N with
    | some D=>match trV (Ei N) r with
     | some r'=>some ((σ.after dead D).put d r',Sv P l K us h (Gives r outs))
     | none=>none
    | none=>none
   | none=>none
  | none=>none
 else none
section
variable {P:Program}{C:Xx}{σ σ':St}{o:Oper}
def Ql.yieldV {d b l:Nat}{K:Cg}{cs:L_ V}{q:Nat}{x:Operand}{D:Array Operand}{ts:Array TypeId}{M N:L_ (Nat×Nat)}{dead:L_ Nat}{outs:H_}{vs us:L_ V}{ms:L_ Mode}{r:V}{φ:Prop}(ho:o.op=.call { callee:=.value x,args:=D,argTypes:=ts })
  (hx:σ.opd x=some (.clo (.yield l) [] [])) (hlp:look σ.hp b=some (.lp l K cs q)) (hq:q=0) (ha:σ.opsV D.toList=some vs) (hps:vs.length=K.ps.size) (hd:o.dst=some d) (hn:B_ d C) (hpg:C.pg P)
  (hu:Qig cs K.ps.toList vs=us) (e:yV P σ l d K us M N dead ms outs r=some (σ',φ)) (hφ:φ):Ql P C o σ σ':=by
 unfold yV at e
 replace e:=XX e;obtain⟨e1,e⟩:=e
 simp only[QQ]at e1
 obtain⟨⟨h1,h2⟩,h3⟩:=e1
 have h2:=DX.1 h2
 have h3:=DX.1 h3
 have inj:IR M=true/\IR N=true:=by
  simp only[GI,QQ]at h1
  exact⟨h1.1.1.1,h1.1.1.2⟩
 have mM:∀a b,Ei M a=some b->look M b=some a:=λa b h=>Wa inj.1 (Hz h) h2
 have mN:∀a b,Ei N a=some b->look N b=some a:=λa b h=>Wa inj.2 (Hz h) h3
 split at e
 ·rename_i us hus
  split at e
  ·rename_i hsC hC
   split at e
   ·rename_i hsN hN
    split at e
    ·rename_i r' hr
     cases e
     subst hu
     exact Ql.yield ho hx hlp hq ha hps hd hn hpg h1 h2 (MT mM hus) (Ek mM hC) hφ (Ek mN hN) (OL mN hr)
    cases e
   cases e
  cases e
 cases e
end
section
variable {P:Program}{C:Xx}{φ:Nat->O_ Xa}{σ:St}{a:Act}{w:World}{o:Oper}
def QcL {D:Array Value}{z m i:Nat}(hz:D.size=z)(h0:0<z)(h:i<m*z):(Builtin.zeroCells D m).toList[i]? = D[i % z]? := by
 have h2:i % z<D.size:=by rw[hz];exact Nat.mod_lt _ h0
 simp only[Builtin.zeroCells,hz,Array.toList_map,Array.toList_range,Yf,List.getElem?_range h,Ww,Array.getElem!_eq_getD,QaO,EX h2,Va]
def RR.clearTail {b n l z e:Nat}{rs:L_ (L_ V)}{zs:L_ V}{zv:Value}{B:Xa}(hr:RR C φ σ a w)(hb:look σ.hp b=some (.arr z rs))(hrn:rs.length=n)(hB:φ b=some B)(hzs:zv.cells.toList.map AJ=zs)(hzl:zs.length=z)(h0:0<z)(hzo:zs.all V.one=true)
  (hln:l<=n):∃w',(storeCells ⟨B.b,B.off+l*z,none⟩ (Builtin.zeroCells zv.cells (n-l)).toList).run P w=.ok () w'/\RR C φ (σ.set b (.arr z (rs.take l++List.replicate (n-l) zs))) a w':=by
 obtain⟨hz,hrl,hok,xs,E,e1,e2,e3⟩:=hr.block hB hb
 subst hz
 have hcs:zv.cells.size=B.z:=by rw[<-hzl,<-hzs];simp
 rw[XN]at hzo
 have D:(Builtin.zeroCells zv.cells (n-l)).toList.length=(n-l)*B.z:=by simp[Builtin.zeroCells,hcs]
 have hmul:l*B.z+(n-l)*B.z=n*B.z:=by rw[<-WE];congr 1;omega
 have hnc:n*B.z<=B.cap*B.z:=JP _ (by omega)
 have hone:∀v∈(Builtin.zeroCells zv.cells (n-l)).toList,v.oneCell'=true:=by
  intro v hv
  obtain⟨i,hi⟩:=Nl.1 hv
  have hil:i<(n-l)*B.z:=by rw[<-D];exact(Xj.1 hi).1
  rw[QcL hcs h0 hil]at hi
  have hm:(AJ v)∈zs:=by rw[<-hzs];exact List.mem_map_of_mem (Qgh.2 (Array.mem_of_getElem? hi))
  exact((QT.dat (φ:=φ) (I:=λ_=>True) (w:=w) (XB.const v)).oneCell (hzo _ hm)).2
 generalize hZ:(Builtin.zeroCells zv.cells (n-l)).toList=Z at D hone
 have hrun:=run_storeCells_at P B.b (B.off+l*B.z) E Z 0 xs w e1 (by rw[D];omega) hone
 simp only[No]at hrun
 refine⟨_,hrun,?_⟩
 have hl1:(xs.toList.take (B.off+l*B.z)++Z++xs.toList.drop (B.off+l*B.z+Z.length)).length=xs.size:=by simp[D];omega
 refine hr.write hB rfl rfl rfl (by simp) (λk hk=>setRow_other w B.b k _ hk) ⟨rfl,by simp;omega,?_,_,E,setRow_heap w B.b xs _ E _ e1,?_,?_⟩
 ·intro r' hr'
  rcases YD.1 hr' with h | h
  ·exact hok r' (Bf h)
  rw[RZ h];exact⟨hzl,hzo⟩
 ·simp only[List.size_toArray,hl1];exact e2
 have hI:∀k,Xl C φ w k->Xl C φ (w.setRow B.b (xs.toList.take (B.off+l*B.z)++Z++xs.toList.drop (B.off+l*B.z+Z.length)).toArray) k/\
   (w.setRow B.b (xs.toList.take (B.off+l*B.z)++Z++xs.toList.drop (B.off+l*B.z+Z.length)).toArray).heap[k]? = w.heap[k]?:=
  λk hk=>⟨⟨by simpa using hk.1,hk.2⟩,setRow_other w B.b k _ λe=>hk.2.2 b B hB (.inl e)⟩
 intro i r hi j v hj
 by_cases hil:i<l
 ·rw[Jz (by simp;omega),Kd,if_pos hil]at hi
  obtain⟨y,hy,hD⟩:=e3 i r hi j v hj
  have hjz:j<B.z:=by rw[<-(hok r (XH hi)).1];exact(Xj.1 hj).1
  have hlt:i*B.z+j<l*B.z:=by
   have:(i+1)*B.z<=l*B.z:=JP _ hil
   rw[WE]at this;omega
  refine⟨y,?_,hD.mono hI⟩
  have hyl:=(Fo.1 hy).1
  rw[Lu,WY,Jz (by simp;omega),Kd,if_pos (by omega)];simpa using hy
 rw[Wl (by simp;omega)]at hi
 simp only[WZ,hrn,MP hln]at hi
 rw[List.getElem?_replicate]at hi
 split at hi
 ·rename_i hin
  cases hi
  have hjz:j<B.z:=by rw[<-hzl];exact(Xj.1 hj).1
  rw[<-hzs,Yf]at hj
  obtain⟨y,hy,rfl⟩:=XW.1 hj
  refine⟨y,?_,XB.const y⟩
  have hidx:(i-l)*B.z+j<(n-l)*B.z:=by
   have:(i-l+1)*B.z<=(n-l)*B.z:=JP _ hin
   rw[WE]at this;omega
  have hsum:i*B.z=l*B.z+(i-l)*B.z:=by rw[<-WE];congr 1;omega
  rw[Lu,WY,Wl (by simp;omega),Jz (by simp[D];omega)]
  have:B.off+(i*B.z+j)-(xs.toList.take (B.off+l*B.z)).length=(i-l)*B.z+j:=by simp;omega
  rw[this,<-hZ,QcL hcs h0 hidx]
  have hm:((i-l)*B.z+j) % B.z=j:=by rw[Nat.add_comm,Nat.add_mul_mod_self_right,Nat.mod_eq_of_lt hjz]
  rw[hm];simpa using hy
 cases hi
def AK.clearTail {Q:Exit->St->Prop}{ks:L_ Fr}{ops:Array Oper}{rest:L_ Oper}{o1 o2:Oper}{T d b n l z e by_:Nat}{x lo:Operand}{rs us:L_ (L_ V)}{zs:L_ V}(hg1:o1.guard=none)(hg2:o2.guard=none)
  (ho1:o1.op=.slice T x (some lo) none none) (hd1:o1.dst=some d) (ho2:o2.op=.call { callee:=.builtin .clear,args:=#[.tmp d],argTypes:=#[T] }) (hd2:o2.dst=none) (hn:B_ d C)
  (hx:σ.opd x=some (.own b n)) (hb:look σ.hp b=some (.arr z rs)) (hrn:rs.length=n) (hT:Yk P T=some (e,z,by_)) (hz:Ya P e=some zs) (hzl:zs.length=z) (h0:Nat.ble 1 z=true) (hzo:zs.all V.one=true) (hl:EE σ 0 (some lo) l) (hln:l<=n)
  (hu:rs.take l++List.replicate (n-l) zs=us) (k:AK P C Q (.o ops rest) ks ((σ.set b (.arr z us)).put d .J)):AK P C Q (.o ops (o1::o2::rest)) ks σ:=by
 intro a w ⟨φ,hr⟩
 subst hu
 have h0:=Ke h0
 obtain⟨hu,i,hi',hiz,_⟩:=JJ hT
 obtain⟨i',zv,hi2,hz',hzs⟩:=Bh hz
 have key:∃x1 w',(execOp a.eval o1).run P w=.ok (.value x1) w/\(Builtin.clear_ #[T] o2.type #[x1]).run P w=.ok (.tuple #[]) w'/\RR C φ (σ.set b (.arr z (rs.take l++List.replicate (n-l) zs))) a w':=by
  rcases(hr.opd hx).own_inv with⟨he,rfl⟩|⟨B,hB,hcap,he⟩
  ·have l0:l=0:=by omega
   subst l0
   have:rs=[]:=HV.1 hrn
   subst this
   refine⟨.slice none 0 0,w,?_,?_,hr.sayOb (ob':=.arr z []) hb (λ_ _ h=>h) (.inl rfl)⟩
   ·have D:=Uq (P:=P) (b:=true) hr hl (.no (dflt:=0)) (by omega) (by omega:0<=0)
    simp only[Ww,MQ]at D
    simp[execOp,ho1,he,Instr.sliceAt,Instr.slice,run_underlying hu,D,sizeOf,typeInfo,hi']
   simp[Builtin.clear_,run_underlying hu]
  have D:=Uq (P:=P) (b:=true) hr hl (.no (dflt:=n)) hln (by omega:n<=B.cap)
  simp only[Ww,MQ]at D
  by_cases hcl:B.cap=l
  ·have hln2:n-l=0:=by omega
   refine⟨.slice (some ⟨B.b,B.off,none⟩) 0 0,w,?_,?_,?_⟩
   ·simp only[execOp,ho1,he,Instr.sliceAt,Instr.slice,run_underlying hu,D,sizeOf,typeInfo,hi',Xh,Xw,run_program,Xq,Ww,MQ]
    simp[hcl];omega
   ·simp[Builtin.clear_,run_underlying hu]
   rw[hln2,List.replicate_zero,QbO,JR (by omega)]
   exact hr.sayOb hb (λ_ _ h=>h) (.inl rfl)
  obtain⟨w',hw,hr'⟩:=hr.clearTail (P:=P) (l:=l) (e:=e) hb hrn hB hzs hzl h0 hzo hln
  refine⟨.slice (some ⟨B.b,B.off+l*z,none⟩) (n-l) (B.cap-l),?_⟩
  have hex:(execOp a.eval o1).run P w=.ok (.value (.slice (some ⟨B.b,B.off+l*z,none⟩) (n-l) (B.cap-l))) w:=by
   simp only[execOp,ho1,he,Instr.sliceAt,Instr.slice,run_underlying hu,D,sizeOf,typeInfo,hi',Xh,Xw,run_program,Xq,Ww,MQ,if_neg hcl,hiz,Addr.add_lit]
  by_cases hnl:n-l=0
  ·refine⟨w,hex,?_,?_⟩
   ·rw[hnl];simp[Builtin.clear_,run_underlying hu]
   rw[hnl,List.replicate_zero,QbO,JR (by omega)]
   exact hr.sayOb hb (λ_ _ h=>h) (.inl rfl)
  refine⟨w',hex,?_,hr'⟩
  obtain⟨m,hm⟩:∃m,n-l=m+1:=⟨n-l-1,by omega⟩
  rw[hm]at hw ⊢
  rw[hi2]at hi';cases hi'
  simp only[Builtin.clear_,Xh,run_underlying hu,Xq,Xw,zeroValue,typeInfo,run_program,hi2,hz',Lu,List.getElem?_cons_zero]
  simp[hw,hz']
 obtain⟨x1,w',hex,hcl,hr'⟩:=key
 have hput:∀t,(a.put (some d) x1).tmps[t]? = if t=d then(if d<a.tmps.size then some x1 else none)else a.tmps[t]? := λt=>by
  simp only[Act.put,QaP]
  by_cases e:d=t
  ·subst e;simp
  simp[e,Ne.symm e]
 have hev:(a.put (some d) x1).eval (.tmp d)=x1:=by
  have hlt:d<a.tmps.size:=by rw[hr.tmps];exact XE hn
  simp[Act.eval,Act.put,QaO,QaP,hlt]
 have hex2:(execOp (a.put (some d) x1).eval o2).run P w=.ok (.value (.tuple #[])) w':=by
  simp only[execOp,ho2,resolve,invoke,builtin,Xh,Xw,Xq,List.map_toArray,Ul,List.map_nil,hev,hcl]
 show wpListIn C.F 0 P ops (up C (unw P C Q ks)) (o1::o2::rest) a w
 simp only[wpListIn,Region.wanted,hg1,if_true]
 refine⟨λ_ _=>trivial,?_⟩
 rw[Qh2 hex,Oper.uponIn_value,hd1]
 simp only[wpListIn,Region.wanted,hg2,if_true]
 refine⟨λ_ _=>trivial,?_⟩
 rw[Qh2 hex2,Oper.uponIn_value,hd2]
 exact k _ _ ⟨φ,hr'.put (XE hn) (.dat (.J x1))⟩
def QrU {α:Type}{f:α->L_ V}{e:L_ α}{l k:Nat}{zs:L_ V}{x:α}{ms:L_ (O_ Nat)}(h:∀y,DW ms (f y)=f y)(D:DW ms zs=f x):((e.map f).take l++List.replicate k zs).map (DW ms)=(e.take l++List.replicate k x).map f:=by
 have h3:DW ms∘f=f:=funext h
 simp[List.map_take,D,h3]
def Qpa {α:Type}{b l:Nat}{e:L_ α}{x:α}(h:l<=e.length):V.own b e.length=V.own b (e.take l++List.replicate (e.length-l) x).length:=by
 congr 1;simp;omega
end
end Go.Vm
namespace Go.Vm
open Go Go.RowKit Go.Proofs Go.Sort Go.Shelf
def LC (l:L_ Int):L_ Int:=l.mergeSort λx y=>decide (x<=y)
def HH (x:Int):L_ V:=[V.i .i64 x]
def Qk3 (l:L_ Int):(LC l).length=l.length:=List.length_mergeSort ..
def Qna {P:Program}{ρ:Ren}(Ly:Lays.n189 P ρ)(zs:L_ Int)(hz:zs.length<4611686018427387904):
  QU P (ρ.f 189) [.own 620 zs.length] [(620,.arr 1 (zs.map HH))] (Gives (.tup []) [(620,.arr 1 ((LC zs).map HH))]):=by
 intro S φ w vals hi _
 have hs:=hi.size
 obtain⟨v0,hv0⟩:∃v0,vals=#[v0]:=by
  obtain⟨l⟩:=vals
  match l,hs with
  | [x],_=>exact⟨x,rfl⟩
 subst hv0
 have ha:=hi.args 0 v0 _ rfl rfl
 rcases ha.own_inv with⟨hx,hn⟩|⟨B,hB,hn,hx⟩
 ·have h0:zs=[]:=QlN hn
  subst h0;subst hx
  refine(Any.slices_Sort_int_none Ly none 0 w).mono ?_
  rintro e w' ⟨rfl,rfl⟩
  refine⟨.tuple #[],.tup [],[(620,.arr 1 [])],φ,rfl,⟨rfl,λc ob h=>by simpa[LC] using h⟩,rfl,rfl,rfl,YY _,λ_ _ _=>rfl,hi.inj,λo B h=>?_,λo B k h D=>?_,λo B k h D hlt=>?_,⟨λo B _ h=>h,λo ob B _ _ h=>h⟩,.dat (.tup _ _ rfl λj x v h=>by simp at h),λo ob h=>?_⟩
  ·obtain⟨_,_,ob,hob⟩:=hi.dom o B h;exact⟨ob,hob⟩
  ·obtain⟨_,h2,_⟩:=hi.dom o B h
   exact⟨(h2 k D).1,λ_=>⟨o,B,h,D⟩⟩
  ·obtain⟨h1,_,_⟩:=hi.dom o B h;omega
  have hS:∀k,S k->Vk S φ w' w' k/\w'.heap[k]? = w'.heap[k]? := λk D=>⟨⟨hi.lt k D,λ_=>D,λo B h hb=>((hi.dom o B h).2.1 k hb).2 D⟩,rfl⟩
  rcases hi.heap o ob h with⟨B,hB,hr⟩|hn
  ·exact .inl ⟨B,hB,hr.mono (λ_ _ h=>h) hS λ_ _=>rfl⟩
  exact .inr hn
 subst hx
 have hob:JA φ S w B (.arr 1 (zs.map HH)):=by
  rcases hi.heap 620 _ (QH _ _ _)with⟨B',hB',hr⟩|⟨hn',_⟩
  ·rw[hB]at hB';cases hB';exact hr
  rw[hB]at hn';cases hn'
 obtain⟨hz1,hle,hok,cs,E,hb,hsz,hcell⟩:=hob
 have hlt:B.b<w.heap.size:=((hi.dom _ _ hB).2.1 _ B.self).1
 have hrow:∀(l:L_ Int) (i:Nat) (x:Int),l[i]? = some x->(l.map HH)[i]? = some (HH x):=λl i x h=>by rw[Yf,h];rfl
 have hc:∀(i:Nat) x,zs[i]? = some x->cs[B.off+i]? = some (.int .i64 x):=λi x h=>by
  obtain⟨y,hy,hd⟩:=hcell i _ (hrow _ i x h) 0 (.i .i64 x) rfl
  rw[show i*1+0=i by omega]at hy
  rw[hy];cases hd;rfl
 have hH:Holds (Value.int .i64) w B.b B.off zs.toArray:=λj hj=>by
  have hj':j<zs.length:=by simpa using hj
  have h1:=hc j zs[j] (Qy hj')
  have h2:zs.toArray[j]! = zs[j]:=by simp[hj']
  refine⟨?_,?_⟩
  ·rw[h2];simp[World.cell?,hb,h1]
  simp[World.frozen?,hb]
 refine(Any.slices_Sort_int Ly B.b B.off B.cap zs w hH hlt hz).mono ?_
 rintro e w' ⟨rfl,n,os,rfl⟩
 have hh:∀k,k<w.heap.size->(grow (putRow (Value.int .i64) (Sort.ahead w n) B.b B.off (LC zs).toArray) os).heap[k]? = (w.heap.modify B.b (onCells (putCells (Value.int .i64) B.off (LC zs).toArray)))[k]? := λk D=>by
  rw[heap_grow_old _ _ (by rw[size_putRow];exact D)];rfl
 have ho:∀k,k<w.heap.size->k≠B.b->(grow (putRow (Value.int .i64) (Sort.ahead w n) B.b B.off (LC zs).toArray) os).heap[k]? = w.heap[k]? := λk D hne=>by
  rw[hh k D,QlV,if_neg (Ne.symm hne)]
 have hsize:w.heap.size<=(grow (putRow (Value.int .i64) (Sort.ahead w n) B.b B.off (LC zs).toArray) os).heap.size:=by
  rw[size_grow,size_putRow];exact Nat.le_add_right _ _
 have hme:(grow (putRow (Value.int .i64) (Sort.ahead w n) B.b B.off (LC zs).toArray) os).heap[B.b]? = some (.cells (putCells (Value.int .i64) B.off (LC zs).toArray cs) E (0,0)):=by
  rw[hh _ hlt,QlV,if_pos rfl,hb];rfl
 have hall:∀o' B',φ o'=some B'->o'=620:=λo' B' h'=>by
  obtain⟨_,_,ob,hob⟩:=hi.dom o' B' h'
  by_cases e:620=o'
  ·exact e.symm
  rw[QA _ _ e]at hob;cases hob
 refine⟨.tuple #[],.tup [],[(620,.arr 1 ((LC zs).map HH))],φ,rfl,⟨rfl,λc ob h=>h⟩,rfl,rfl,rfl,hsize,λk D hno=>?_,hi.inj,λo B h=>?_,λo B k h D=>?_,λo B k h D hl=>?_,⟨λo B _ h=>h,λo ob B _ _ h=>h⟩,.dat (.tup _ _ rfl λj x v h=>by simp at h),λo ob h=>?_⟩
 ·exact ho k D λe=>hno 620 B hB (e▸B.self)
 ·rw[hall o B h];exact⟨_,QH _ _ _⟩
 ·obtain⟨_,h2,_⟩:=hi.dom o B h
  exact⟨GH (h2 k D).1 hsize,λ_=>⟨o,B,h,D⟩⟩
 ·obtain⟨h1,_,_⟩:=hi.dom o B h;omega
 by_cases e:620=o
 ·subst e
  rw[QH]at h;cases h
  refine .inl ⟨B,hB,hz1,?_,?_,_,E,hme,?_,?_⟩
  ·rw[Lv,Qk3];rw[Lv]at hle;exact hle
  ·intro r hr;obtain⟨x,_,rfl⟩:=YL.1 hr
   exact⟨rfl,λv hv=>by simp[HH]at hv;subst hv;rfl⟩
  ·simpa[putCells] using hsz
  intro i r hi' j v hj
  rw[Yf]at hi'
  obtain⟨x,hx,rfl⟩:=XW.1 hi'
  have hil:i<(LC zs).length:=(Xj.1 hx).1
  have hil':i<zs.length:=by rw[Qk3]at hil;exact hil
  match j,hj with
  | 0,hj=>
   cases hj
   refine⟨.int .i64 x,?_,.i _ _⟩
   rw[show i*1+0=i by omega]
   have h1:=hc i zs[i] (Qy hil')
   have h2:(LC zs).toArray[i]! = x:=by
    have:=Xj.1 hx
    obtain⟨h3,h4⟩:=this
    simp[h3,h4]
   simp only[putCells,Array.getElem?_mapIdx,h1,Ww]
   rw[if_pos ⟨by omega,by simp;omega⟩,show B.off+i-B.off=i by omega,h2]
  | j+1,hj=>simp[HH]at hj
 rw[QA _ _ e]at h;cases h
def QjZ (x:Int):L_ Int->L_ Int
 | []=>[x]
 | y::l=>bif decide (x<=y)then x::y::l else y::QjZ x l
def DI : L_ Int->L_ Int
 | []=>[]
 | x::l=>QjZ x (DI l)
def Qk4 (x:Int)(l:L_ Int):(QjZ x l).Perm (x::l):=by
 induction l with
 | nil=>exact .refl _
 | cons y l h=>
  rw[QjZ]
  cases decide (x<=y)with
  | true=>exact .refl _
  | false=>exact(h.cons y).trans (.swap x y l)
def Qrl {x:Int}{l:L_ Int}(h:l.Pairwise (·<=·)):(QjZ x l).Pairwise (·<=·):=by
 induction l with
 | nil=>exact Qh1 _ _
 | cons y l ih=>
  obtain⟨h1,h2⟩:=TF.1 h
  rw[QjZ]
  cases c:decide (x<=y)with
  | true=>
   have c:=Xo c
   refine TF.2 ⟨λz D=>?_,h⟩
   rcases Yw.1 D with rfl | D
   ·exact c
   have:=h1 z D;omega
  | false=>
   have c:=of_decide_eq_false c
   refine TF.2 ⟨λz D=>?_,ih h2⟩
   rcases Yw.1 ((Qk4 x l).mem_iff.1 D)with rfl | D
   ·omega
   exact h1 z D
def Qcf (l:L_ Int):(DI l).Perm l:=by
 induction l with
 | nil=>exact .refl _
 | cons x l h=>exact(Qk4 x _).trans (h.cons x)
def Qf7 (l:L_ Int):(DI l).Pairwise (·<=·):=by
 induction l with
 | nil=>exact List.Pairwise.nil
 | cons x l h=>exact Qrl h
def Qcg (l:L_ Int):DI l=l.mergeSort λx y=>decide (x<=y):=by
 refine List.Perm.eq_of_pairwise (le:=λx y:Int=>x<=y) (λa b _ _ D h2=>by omega) (Qf7 l) ?_ ((Qcf l).trans (List.mergeSort_perm l _).symm)
 exact(List.pairwise_mergeSort (le:=λx y:Int=>decide (x<=y)) (λa b c D h2=>by simp at *;omega) (λa b=>by simp;omega) l).imp λh=>by simpa using h
def Gv (l:L_ Int):(DI l).length=l.length:=(Qcf l).length_eq
def Qnb {P:Program}{ρ:Ren}(D:Lays.n189 P ρ)(zs:L_ Int)(hz:zs.length<4611686018427387904):
  QU P (ρ.f 189) [.own 620 zs.length] [(620,.arr 1 (zs.map HH))] (Gives (.tup []) [(620,.arr 1 ((DI zs).map HH))]):=by
 have h:=Qna D zs hz
 rw[show LC zs=DI zs from(Qcg zs).symm]at h
 exact h
def DY (l:L_ Int):L_ Int:=Lib.compact l
def Qnc {P:Program}{ρ:Ren}(Ly:Lays2.n20 P ρ)(zs:L_ Int)(hz:zs.length<4611686018427387904):
  QU P (ρ.f 20) [.own 620 zs.length] [(620,.arr 1 (zs.map HH))] (Gives (.own 620 (DY zs).length) [(620,.arr 1 ((DY zs).map HH))]):=by
 intro S φ w vals hi _
 have hs:=hi.size
 obtain⟨v0,hv0⟩:∃v0,vals=#[v0]:=by
  obtain⟨l⟩:=vals
  match l,hs with
  | [x],_=>exact⟨x,rfl⟩
 subst hv0
 have ha:=hi.args 0 v0 _ rfl rfl
 have hall:∀o' B',φ o'=some B'->o'=620:=λo' B' h'=>by
  obtain⟨_,_,ob,hob⟩:=hi.dom o' B' h'
  by_cases e:620=o'
  ·exact e.symm
  rw[QA _ _ e]at hob;cases hob
 rcases ha.own_inv with⟨hx,hn⟩|⟨B,hB,hn,hx⟩
 ·have h0:zs=[]:=QlN hn
  subst h0;subst hx
  have hc0:DY []=[]:=by simp[DY,Lib.compact,Lib.compactUpTo]
  rw[hc0]
  refine(Any.slices_Compact_int_empty Ly none 0 w).mono ?_
  rintro e w' ⟨rfl,rfl⟩
  refine⟨.slice none 0 0,.own 620 0,[(620,.arr 1 [])],φ,rfl,⟨rfl,λc ob h=>h⟩,rfl,rfl,rfl,YY _,λ_ _ _=>rfl,hi.inj,λo B h=>?_,λo B k h hk=>?_,λo B k h hk hlt=>?_,⟨λo B _ h=>h,λo ob B _ _ h=>h⟩,.own0 _,λo ob h=>?_⟩
  ·obtain⟨_,_,ob,hob⟩:=hi.dom o B h;exact⟨ob,hob⟩
  ·obtain⟨_,h2,_⟩:=hi.dom o B h
   exact⟨(h2 k hk).1,λ_=>⟨o,B,h,hk⟩⟩
  ·obtain⟨h1,_,_⟩:=hi.dom o B h;omega
  have hS:∀k,S k->Vk S φ w' w' k/\w'.heap[k]? = w'.heap[k]? := λk hk=>⟨⟨hi.lt k hk,λ_=>hk,λo B h hb=>((hi.dom o B h).2.1 k hb).2 hk⟩,rfl⟩
  rcases hi.heap o ob h with⟨B,hB,hr⟩|hn
  ·exact .inl ⟨B,hB,hr.mono (λ_ _ h=>h) hS λ_ _=>rfl⟩
  exact .inr hn
 subst hx
 have hob:JA φ S w B (.arr 1 (zs.map HH)):=by
  rcases hi.heap 620 _ (QH _ _ _)with⟨B',hB',hr⟩|⟨hn',_⟩
  ·rw[hB]at hB';cases hB';exact hr
  rw[hB]at hn';cases hn'
 obtain⟨hz1,hle,hok,cs,E,hb,hsz,hcell⟩:=hob
 have hlt:B.b<w.heap.size:=((hi.dom _ _ hB).2.1 _ B.self).1
 have hrow:∀(l:L_ Int) (i:Nat) (x:Int),l[i]? = some x->(l.map HH)[i]? = some (HH x):=λl i x h=>by rw[Yf,h];rfl
 have hc:∀(i:Nat) x,zs[i]? = some x->cs[B.off+i]? = some (.int .i64 x):=λi x h=>by
  obtain⟨y,hy,hd⟩:=hcell i _ (hrow _ i x h) 0 (.i .i64 x) rfl
  rw[show i*1+0=i by omega]at hy
  rw[hy];cases hd;rfl
 have hH:Holds (Value.int .i64) w B.b B.off zs.toArray:=λj hj=>by
  have hj':j<zs.length:=by simpa using hj
  have h1:=hc j zs[j] (Qy hj')
  have h2:zs.toArray[j]! = zs[j]:=by simp[hj']
  refine⟨?_,?_⟩
  ·rw[h2];simp[World.cell?,hb,h1]
  simp[World.frozen?,hb]
 have hcl:(DY zs).length<=zs.length:=by
  unfold DY Lib.compact Lib.compactUpTo
  rw[Lv]
  exact Yb (QeK _ _) (by simp)
 refine(Any.slices_Compact_int Ly B.b B.off B.cap zs w hH (by omega) hn).mono ?_
 rintro e w' ⟨rfl,n,rfl⟩
 change ∃x v hs' φ',Ending.returned (.slice (some ⟨B.b,B.off,none⟩) (DY zs).length B.cap)=.returned x/\_/\Outs S φ w φ' (putRow (Value.int .i64) (Sort.ahead w n) B.b B.off (DY zs++List.replicate (zs.length-(DY zs).length) 0).toArray) x v hs'
 generalize hD:(DY zs++List.replicate (zs.length-(DY zs).length) 0).toArray=D
 have hDs:D.size=zs.length:=by subst hD;simp;omega
 have hh:∀k:Nat,(putRow (Value.int .i64) (Sort.ahead w n) B.b B.off D).heap[k]? = (w.heap.modify B.b (onCells (putCells (Value.int .i64) B.off D)))[k]? := λk=>rfl
 have ho:∀k:Nat,k≠B.b->(putRow (Value.int .i64) (Sort.ahead w n) B.b B.off D).heap[k]? = w.heap[k]? := λk hne=>by
  rw[hh k,QlV,if_neg (Ne.symm hne)]
 have hsize:w.heap.size<=(putRow (Value.int .i64) (Sort.ahead w n) B.b B.off D).heap.size:=by
  rw[size_putRow];exact YY _
 have hme:(putRow (Value.int .i64) (Sort.ahead w n) B.b B.off D).heap[B.b]? = some (.cells (putCells (Value.int .i64) B.off D cs) E (0,0)):=by
  rw[hh _,QlV,if_pos rfl,hb];rfl
 refine⟨_,.own 620 (DY zs).length,[(620,.arr 1 ((DY zs).map HH))],φ,rfl,⟨rfl,λc ob h=>h⟩,rfl,rfl,rfl,hsize,λk hk hno=>?_,hi.inj,λo B h=>?_,λo B k h hk=>?_,λo B k h hk hl=>?_,⟨λo B _ h=>h,λo ob B _ _ h=>h⟩,.own _ _ B hB (by omega),λo ob h=>?_⟩
 ·exact ho k λe=>hno 620 B hB (e▸B.self)
 ·rw[hall o B h];exact⟨_,QH _ _ _⟩
 ·obtain⟨_,h2,_⟩:=hi.dom o B h
  exact⟨GH (h2 k hk).1 hsize,λ_=>⟨o,B,h,hk⟩⟩
 ·obtain⟨h1,_,_⟩:=hi.dom o B h;omega
 by_cases e:620=o
 ·subst e
  rw[QH]at h;cases h
  refine .inl ⟨B,hB,hz1,?_,?_,_,E,hme,?_,?_⟩
  ·rw[Lv];omega
  ·intro r hr;obtain⟨x,_,rfl⟩:=YL.1 hr
   exact⟨rfl,λv hv=>by simp[HH]at hv;subst hv;rfl⟩
  ·simpa[putCells] using hsz
  intro i r hi' j v hj
  rw[Yf]at hi'
  obtain⟨x,hx,rfl⟩:=XW.1 hi'
  have hil:i<(DY zs).length:=(Xj.1 hx).1
  have hil':i<zs.length:=by omega
  match j,hj with
  | 0,hj=>
   cases hj
   refine⟨.int .i64 x,?_,.i _ _⟩
   rw[show i*1+0=i by omega]
   have h1:=hc i zs[i] (Qy hil')
   have h2:D[i]! = x:=by
    subst hD
    rw[getElem!_pos _ i (by simp;omega)]
    obtain⟨h3,h4⟩:=Xj.1 hx
    simp[List.getElem_append,h3,h4]
   simp only[putCells,Array.getElem?_mapIdx,h1,Ww]
   rw[if_pos ⟨by omega,by omega⟩,show B.off+i-B.off=i by omega,h2]
  | j+1,hj=>simp[HH]at hj
 rw[QA _ _ e]at h;cases h
def Qmo (s:ByteArray):Bool:=decide (s.size<4294967281)&&s.data.toList.all λb=>decide (b.toNat<128)
def AP (s:ByteArray):L_ ByteArray:=(Lib.fields s.data.toList).map λl=>⟨l.toArray⟩
def Qlr {P:Program}{ρ:Ren}(Ly:Lays.n157 P ρ)(hi9:(P.info? (ρ.t 9)).map (fun i=>(i.zero,i.size,i.bytes))=some (some (.string ByteArray.empty),1,16))(hg:P.globalNamed "strings.asciiSpace" = some (ρ.g 0))(s:ByteArray)(hs:Qmo s=true):
  QU P (ρ.f 157) [.s s] [] (Gives (.own 600 (AP s).length) [(600,.arr 1 ((AP s).map λx=>[V.s x]))]):=by
 intro S φ w vals hi hG
 have hsz:=hi.size
 obtain⟨v0,hv0⟩:∃v0,vals=#[v0]:=by
  obtain⟨l⟩:=vals
  match l,hsz with
  | [x],_=>exact⟨x,rfl⟩
 subst hv0
 have ha:=(hi.args 0 v0 _ rfl rfl).s_inv
 subst ha
 unfold Qmo at hs
 rw[QQ,decide_eq_true_iff,XN]at hs
 obtain⟨hs1,hs2⟩:=hs
 obtain⟨_,hl,hT⟩:=hG _ hg
 have hno:∀o B,φ o≠some B:=λo B h=>by obtain⟨_,_,ob,hob⟩:=hi.dom o B h;cases hob
 refine(Any.strings_Fields_core Ly hi9 s w hs1 (λj b hb=>by simpa using hs2 b (XH hb)) hT).mono ?_
 rintro e w' ⟨rfl,rfl⟩
 have hlen:(Lib.fields s.data.toList).length=(AP s).length:=by unfold AP;simp
 rw[hlen]
 generalize hO:Obj.cells ((Lib.fields s.data.toList).map λl=>Value.string ⟨l.toArray⟩).toArray (ρ.t 9)=O
 have hme:(w.alloc O).heap[w.heap.size]? = some O:=World.alloc_heap_new _ _
 have hold:∀k,k<w.heap.size->(w.alloc O).heap[k]? = w.heap[k]? := λk hk=>Below.heap_alloc w O k hk
 have hsize:(w.alloc O).heap.size=w.heap.size+1:=by simp
 have hφ:∀o B,(ext (λ_=>none) 600 ⟨w.heap.size,(AP s).length,1,[],0⟩) o=some B->o=600/\B=⟨w.heap.size,(AP s).length,1,[],0⟩:=λo B h=>by
  unfold ext at h
  split at h
  ·rename_i e;exact⟨e,(Option.some.inj h).symm⟩
  cases h
 have hhas:∀k,(⟨w.heap.size,(AP s).length,1,[],0⟩:Xa).has k->k=w.heap.size:=λk hk=>TW hk
 refine⟨_,.own 600 (AP s).length,[(600,.arr 1 ((AP s).map λx=>[V.s x]))],ext (λ_=>none) 600 ⟨w.heap.size,(AP s).length,1,[],0⟩,rfl,⟨rfl,λc ob h=>h⟩,rfl,rfl,rfl,by rw[hsize];omega,λk hk _=>hold k hk,λo o' B B' k h1 h2 _ _=>by rw[(hφ o B h1).1,(hφ o' B' h2).1],λo B h=>?_,λo B k h hk=>?_,λo B k h hk _=>?_,⟨λo B h1 h2=>by obtain⟨rfl,_⟩:=hφ o B h2;omega,λo ob B _ h2 h3=>absurd h3 (hno o B)⟩,.own _ _ _ (Xv _ _ _) (YY _),λo ob h=>?_⟩
 ·rw[(hφ o B h).1];exact⟨_,QH _ _ _⟩
 ·obtain⟨_,rfl⟩:=hφ o B h
  have:=hhas k hk
  rw[hsize];exact⟨by omega,λh=>by omega⟩
 ·obtain⟨_,rfl⟩:=hφ o B h
  have:=hhas k hk;omega
 by_cases e:600=o
 ·subst e
  rw[QH]at h;cases h
  refine .inl ⟨_,Xv _ _ _,rfl,by simp,λr hr=>?_,_,_,by rw[hme,<-hO],by rw[<-hlen];simp,λi r hi' j v hj=>?_⟩
  ·obtain⟨x,_,rfl⟩:=YL.1 hr
   exact⟨rfl,λv hv=>by simp at hv;subst hv;rfl⟩
  rw[Yf]at hi'
  obtain⟨x,hx,rfl⟩:=XW.1 hi'
  match j,hj with
  | 0,hj=>
   cases hj
   refine⟨.string x,?_,.s _⟩
   unfold AP at hx
   rw[Yf]at hx
   obtain⟨l,hl',rfl⟩:=XW.1 hx
   simp[hl']
  | j+1,hj=>simp at hj
 rw[QA _ _ e]at h;cases h
section
variable {P:Program}{C:Xx}{σ:St}{o:Oper}
def Ib (l:L_ Int):ByteArray:=l.foldl (λr n=>r.push (UInt8.ofNat n.toNat)) ByteArray.empty
def Ql.b2s {S T e d:Nat}{x:Operand}{l:L_ Int}{rows:L_ (L_ V)}(ho:o.op=.convert S T x)(hd:o.dst=some d)(hn:B_ d C)(hx:σ.opd x=some (.sl 1 rows))(hr:rows=l.map λx=>[V.i .u8 x])
  (hS:P.underlying S=some (.slice e)) (he:QdI P e .u8=true) (hT:QbU P T=true):Ql P C o σ (σ.put d (.s (Ib l))):=by
 subst hr
 refine Ql.same hd hn λφ a w hr=>⟨.string (Ib l),?_,.dat (.s _)⟩
 rcases(hr.opd hx).sl_inv with⟨a',cap,hv,h0⟩|⟨b,off,cap,hv,_,_,_,c,hc,D⟩
 ·have:l=[]:=by simpa using h0
  subst this
  simp only[execOp,ho,hv,Xh,run_convert_bytes_string w S T e a' 0 cap hS (Qce he) (Vh hT)]
  cases a' with
  | none=>simp[Conv.bytesToString,Xw,Ib,ByteArray.empty,ByteArray.emptyWithCapacity]
  | some p=>
   rw[run_bytesToString w p 0 cap [] (by rw[run_loadCells w p 0 (λ_=>undef) (λj hj=>absurd hj (Nat.not_lt_zero _))];rfl)]
   simp[Xw,Ib]
 rw[Lv]at hv hc
 simp only[execOp,ho,hv,Xh,run_convert_bytes_string w S T e _ _ cap hS (Qce he) (Vh hT)]
 rw[run_bytesToString w ⟨b,off,none⟩ l.length cap l ?_]
 ·simp[Xw,Ib]
 rw[run_loadCells w ⟨b,off,none⟩ l.length c (λj hj=>by rw[Addr.add_lit];exact hc j (by omega))]
 congr 1
 have:(List.range l.length).map c=l.map (Value.int .u8):=by
  apply List.ext_getElem?
  intro i
  rw[Yf,Yf]
  by_cases h:i<l.length
  ·rw[List.getElem?_range h,Qy h]
   have hd:=D i [V.i .u8 l[i]] (by rw[Yf,Qy h];rfl) 0 (.i .u8 l[i]) rfl
   rw[show i*1+0=i by omega]at hd
   have:=(QT.dat (φ:=φ) hd).i_inv
   simp[this]
  rw[Sa (by simpa using h),Sa (by simpa using h)];rfl
 rw[this]
def Ql.storeNil {T b i off z zz:Nat}{x y:Operand}{rs h:L_ (L_ V)}{r:L_ V}(ho:o.op=.store T x y)(hd:o.dst=none)(hx:σ.opd x=some (.loc b i off))
  (hb:look σ.hp b=some (.arr z rs)) (hi:rs[i]? = some r) (hy:σ.opd y=some (.lit (.slice none 0 0))) (hs:Bg P T=some 1) (D:Nat.ble (off+1) z=true) (he:rs.set i (KU r off [.sl zz []])=h):Ql P C o σ (σ.set b (.arr z h)):=
 Ql.storeAV (v:=.sl zz []) ho hd hx hb hi (λφ a w hr=>by rw[(hr.opd hy).lit_inv];exact .dat (.sl0 none 0 zz)) (.inl rfl) hs rfl rfl rfl D he
def Ql.max3 {d:Nat}{x y z:Operand}{k:IntKind}{m n q:Int}{ts:Array TypeId}(ho:o.op=.call { callee:=.builtin .max,args:=#[x,y,z],argTypes:=ts })(D:o.dst=some d)(hn:B_ d C)
  (hx:σ.opd x=some (.i k m)) (hy:σ.opd y=some (.i k n)) (hz:σ.opd z=some (.i k q)):Ql P C o σ (σ.put d (.i k (Vm.max2 (Vm.max2 m n) q))):=by
 refine Ql.same D hn λφ a w h=>⟨.int k (Vm.max2 (Vm.max2 m n) q),?_,.dat (.i _ _)⟩
 simp[execOp,ho,(h.opd hx).i_inv,(h.opd hy).i_inv,(h.opd hz).i_inv,resolve,invoke,builtin,Builtin.max_,Builtin.max2,Vm.max2]
end
def Cl (w:World)(h:L_ Value)(vs:L_ V):Prop:=h.length=vs.length/\∀(j:Nat) c v,h[j]? = some c->vs[j]? = some v->XB (λk=>k<w.heap.size) w c v
def Cl.nil {w:World}:Cl w [] []:=⟨rfl,λj c v h _=>by simp at h⟩
def Cl.one {w:World}{c:Value}{v:V}(h:XB (λk=>k<w.heap.size) w c v):Cl w [c] [v]:=⟨rfl,λj c' v' D h2=>by
 match j with
 | 0=>simp at D h2;subst D;subst h2;exact h
 | j+1=>simp at D⟩
def Cl.append {w:World}{a b:L_ Value}{u v:L_ V}(h:Cl w a u)(h2:Cl w b v):Cl w (a++b) (u++v):=by
 refine⟨by simp[h.1,h2.1],λj c x hc D=>?_⟩
 by_cases hj:j<a.length
 ·rw[Jz hj]at hc
  rw[Jz (by rw[<-h.1];exact hj)]at D
  exact h.2 j c x hc D
 rw[Wl (by omega)]at hc
 rw[Wl (by rw[<-h.1];omega)]at D
 rw[<-h.1]at D
 exact h2.2 _ c x hc D
def Rd {H α:Type}(enc:TypeId×Value->H)(P:Program)(w:World)(N:Nat)(t:TypeId)(row:α->L_ V)(wf:α->DataW H->Prop):Prop:=
 ∀(fuel:Nat) (h:L_ Value) (d:DataW H) (D:L_ MemPlace),fuel<=N->DataW.trod enc P w 0 (λ_=>true) true fuel t h=some (d,D)->∃x,wf x d/\Cl w h (row x)
def YJ {H α:Type}(enc:TypeId×Value->H)(P:Program)(w:World)(N:Nat)(off tot:Nat)(fs:L_ (Nat×Nat))(row:α->L_ V)(D:α->L_ (DataW H)->Prop):Prop:=
 ∀(fuel:Nat) (h:L_ Value) (xs:L_ (DataW H×L_ MemPlace)),fuel<=N->h.length=off+tot->(fs.mapM λf=>DataW.trod enc P w 0 (λ_=>true) true fuel f.1 ((h.drop f.2).take (P.cellsOf f.1)))=some xs->
  ∃x,D x (xs.map Prod.fst)/\Cl w (h.drop off) (row x)
section
variable {H:Type}{enc:TypeId×Value->H}{P:Program}{w:World}{N:Nat}{t:TypeId}
def Rd.mono {α:Type}{M:Nat}{row:α->L_ V}{D:α->DataW H->Prop}(h:Rd enc P w N t row D)(hM:M<=N):Rd enc P w M t row D:=λfuel cs d ps hf e=>h fuel cs d ps (Yb hf hM) e
def Rd.zero {α:Type}{row:α->L_ V}{h:α->DataW H->Prop}:Rd enc P w 0 t row h:=λfuel D d ps hf e=>by
 have:fuel=0:=by omega
 subst this
 simp[DataW.trod]at e
def Rd.map {α β:Type}{row:α->L_ V}{wf:α->DataW H->Prop}{D:β->L_ V}{wf':β->DataW H->Prop}(g:α->β)(h:Rd enc P w N t row wf)(hr:∀x,row x=D (g x))(hw:∀x d,wf x d->wf' (g x) d):Rd enc P w N t D wf':=λfuel cs d ps hf e=>by
 obtain⟨x,h1,h2⟩:=h fuel cs d ps hf e
 exact⟨g x,hw x d h1,by rw[<-hr];exact h2⟩
def Rd.int {k:IntKind}(ht:P.underlying t=some (.int k)):Rd enc P w N t (λn:Int=>[V.i k n]) (λn d=>(Lit.int k n).wf=true/\d=.lit (.int k n)):=by
 intro fuel cs d ps _ e
 cases fuel with
 | zero=>simp[DataW.trod]at e
 | succ fuel=>
  simp only[DataW.trod,ht]at e
  split at e
  all_goals first | (cases e;done) | (rename_i h;cases h;done) | skip
  rename_i h
  cases h
  split at e
  ·rename_i hc
   obtain⟨rfl,D⟩:=hc
   cases e
   exact⟨_,⟨D,rfl⟩,Cl.one (.i _ _)⟩
  cases e
def Rd.string (ht:P.underlying t=some .string):Rd enc P w N t (λn:ByteArray=>[V.s n]) (λn d=>n.size<=maxLen/\d=.lit (.string n.data.toList)):=by
 intro fuel cs d ps _ e
 cases fuel with
 | zero=>simp[DataW.trod]at e
 | succ fuel=>
  simp only[DataW.trod,ht]at e
  split at e
  all_goals first | (cases e;done) | (rename_i D;cases D;done) | skip
  split at e
  ·rename_i h
   cases e
   exact⟨_,⟨h,rfl⟩,Cl.one (.s _)⟩
  cases e
def QrV {α:Type}{Q:Nat->α->Prop}:∀n:Nat,(∀i,i<n->∃x,Q i x)->∃l:L_ α,l.length=n/\∀i x,l[i]? = some x->Q i x:=by
 intro n
 induction n with
 | zero=>intro _;exact⟨[],rfl,λi x h=>by simp at h⟩
 | succ n ih=>
  intro h
  obtain⟨l,h1,h2⟩:=ih λi hi=>h i (by omega)
  obtain⟨x,hx⟩:=h n (by omega)
  refine⟨l++[x],by simp[h1],λi y D=>?_⟩
  by_cases hi:i<l.length
  ·rw[Jz hi]at D;exact h2 i y D
  have:=(Xj.1 D).1
  simp at this
  have:i=l.length:=by omega
  subst this
  simp at D;subst D;rw[h1];exact hx
def wfL {α:Type}(h:α->DataW H->Prop)(l:L_ α)(d:DataW H):Prop:=l.length<=maxLen/\((d=.nil/\l=[])\/∃es sp,d=.slice es sp/\es.length=l.length/\∀(i:Nat) x e,l[i]? = some x->es[i]? = some e->h x e)
def Rd.slice {α:Type}{e z:Nat}{row:α->L_ V}{wf:α->DataW H->Prop}(ht:P.underlying t=some (.slice e))(hz:P.cellsOf e=z)(hz0:0<z)(hrow:∀x,Um z (row x))(he:Rd enc P w N e row wf):
  Rd enc P w N t (λl:L_ α=>[V.sl z (l.map row)]) (wfL wf):=by
 subst hz
 intro fuel cs d ps hN h
 cases fuel with
 | zero=>simp[DataW.trod]at h
 | succ fuel=>
  simp only[DataW.trod,ht]at h
  split at h
  all_goals first | (cases h;done) | (rename_i hq;cases hq;done) | skip
  ·cases h;exact⟨[],⟨He _,.inl ⟨rfl,rfl⟩⟩,Cl.one (.sl0 _ _ _)⟩
  rename_i a len cap hq
  cases hq
  split at h
  ·rename_i hc
   obtain⟨_,hlc,hcm⟩:=hc
   obtain⟨D,hel,h⟩:=OX.1 h
   obtain⟨rest,_,h⟩:=XW.1 h
   have hlen:D.length=len:=by simpa using mapM_some_length hel
   have hat:∀i,i<len->∃y rc,D[i]? = some y/\w.cells? 0 (a.add (i*P.cellsOf e)) (P.cellsOf e)=some rc/\DataW.trod enc P w 0 (λ_=>true) true fuel e rc=some y:=λi hi=>by
    have:=mapM_some_get hel i i (by simp[hi])
    obtain⟨y,hy⟩:∃y,D[i]? = some y:=⟨_,Qy (by omega)⟩
    rw[hy]at this
    obtain⟨rc,h1,h2⟩:=OX.1 this
    exact⟨y,rc,hy,h1,h2⟩
   obtain⟨l,hl,hQ⟩:=QrV (Q:=λi x=>∃y rc,D[i]? = some y/\w.cells? 0 (a.add (i*P.cellsOf e)) (P.cellsOf e)=some rc/\wf x y.1/\Cl w rc (row x)) len λi hi=>by
    obtain⟨y,rc,h1,h2,h3⟩:=hat i hi
    obtain⟨x,h4,h5⟩:=he fuel rc y.1 y.2 (by omega) h3
    exact⟨x,y,rc,h1,h2,h4,h5⟩
   have hd:d=.slice (D.map (·.1)) (rest.map (·.1)):=by cases h;rfl
   refine⟨l,⟨by omega,.inr ⟨_,_,hd,by simp[hl,hlen],λi x e' hx he'=>?_⟩⟩,Cl.one ?_⟩
   ·obtain⟨y,rc,h1,_,h3,_⟩:=hQ i x hx
    rw[Yf,h1]at he'
    cases he';exact h3
   by_cases h0:len=0
   ·have:l=[]:=HV.1 (by omega)
    subst this;subst h0;exact .sl0 _ _ _
   obtain⟨b,off,spot⟩:=a
   obtain⟨y0,rc0,_,h02,_⟩:=hat 0 (by omega)
   have hs:spot=none:=by
    obtain⟨_,h2,h3⟩:=World.cells?_some h02
    have h4:=h3 0 hz0
    obtain⟨c0,hc0⟩:∃c0,rc0[0]? = some c0:=⟨_,Qy (by omega)⟩
    rw[hc0]at h4
    simpa[Addr.add] using World.cell?_spot h4
   subst hs
   have hb:b<w.heap.size:=by
    have hb:=World.cells?_block h02 hz0
    rwa[WideShapes.add_plain]at hb
   have hcell:∀i,i<len->∀rc,w.cells? 0 ((⟨b,off,none⟩:Addr).add (i*P.cellsOf e)) (P.cellsOf e)=some rc->rc.length=P.cellsOf e/\∀j,j<P.cellsOf e->w.cell? ⟨b,off+(i*P.cellsOf e+j),none⟩=rc[j]? := λi hi rc h=>by
    obtain⟨_,h2,h3⟩:=World.cells?_some h
    refine⟨h2,λj hj=>?_⟩
    have:=h3 j hj
    rw[WideShapes.add_plain,WideShapes.add_plain]at this
    rw[<-TH];exact this
   refine .sl b off len cap (P.cellsOf e) (l.map row) (λj=>(w.cell? ⟨b,off+j,none⟩).getD undef) hb (by simp[hl]) hlc (λr hr=>by obtain⟨x,_,rfl⟩:=YL.1 hr;exact hrow x) (λj hj=>?_) (λi r hr j v hv=>?_)
   ·have hij:j / P.cellsOf e<len:=Nat.div_lt_of_lt_mul (by rw[Nat.mul_comm];exact hj)
    obtain⟨y,rc,_,h2,_⟩:=hat (j / P.cellsOf e) hij
    obtain⟨h3,h4⟩:=hcell _ hij rc h2
    have h5:=h4 (j % P.cellsOf e) (Nat.mod_lt _ hz0)
    rw[Nat.mul_comm (j / P.cellsOf e),Nat.div_add_mod]at h5
    rw[h5]
    have:j % P.cellsOf e<rc.length:=by rw[h3];exact Nat.mod_lt _ hz0
    rw[Qy this];rfl
   rw[Yf]at hr
   obtain⟨x,hx,rfl⟩:=XW.1 hr
   have hi:i<len:=by rw[<-hl];exact(Xj.1 hx).1
   obtain⟨y,rc,_,h2,_,h3⟩:=hQ i x hx
   obtain⟨h4,h5⟩:=hcell i hi rc h2
   have hj:j<P.cellsOf e:=by rw[<-(hrow x).1];exact(Xj.1 hv).1
   have h6:=h5 j hj
   obtain⟨c,hc⟩:∃c,rc[j]? = some c:=⟨_,Qy (by omega)⟩
   rw[hc]at h6
   show XB _ w ((w.cell? ⟨b,off+(i*P.cellsOf e+j),none⟩).getD undef) v
   rw[h6]
   exact h3.2 j c v hc hv
  cases h
def YJ.nil {off:Nat}:YJ enc P w N off 0 [] (λ_:Unit=>[]) (λ_ xs=>xs=[]):=λfuel D xs _ hl h=>by
 simp at h
 subst h
 exact⟨(),rfl,by rw[QbQ (by omega)];exact Cl.nil⟩
def YJ.cons {α β:Type}(t off z:Nat){tot:Nat}{fs:L_ (Nat×Nat)}{D:α->L_ V}{row2:β->L_ V}{wf1:α->DataW H->Prop}{wf2:β->L_ (DataW H)->Prop}(hz:P.cellsOf t=z)
  (h1:Rd enc P w N t D wf1) (h2:YJ enc P w N (off+z) tot fs row2 wf2):YJ enc P w N off (z+tot) ((t,off)::fs) (λx:α×β=>D x.1++row2 x.2) (λx ds=>∃d r,ds=d::r/\wf1 x.1 d/\wf2 x.2 r):=by
 intro fuel cs xs hN hl h
 subst hz
 rw[List.mapM_cons]at h
 obtain⟨y,hy,h⟩:=OX.1 h
 obtain⟨ys,hys,h⟩:=OX.1 h
 cases h
 obtain⟨x1,a1,a2⟩:=h1 fuel _ y.1 y.2 hN hy
 obtain⟨x2,b1,b2⟩:=h2 fuel cs ys hN (by omega) hys
 refine⟨(x1,x2),⟨y.1,ys.map Prod.fst,rfl,a1,b1⟩,?_⟩
 have:cs.drop off=(cs.drop off).take (P.cellsOf t)++cs.drop (off+P.cellsOf t):=by
  rw[<-List.drop_drop,List.take_append_drop]
 rw[this]
 exact a2.append b2
def QeR (P:Program)(t:TypeId)(fs:L_ (Nat×Nat))(tot:Nat):Bool:=match P.underlying t with
 | some (.struct h)=>(h.toList.map λf=>(f.type,f.offset))==fs&&P.cellsOf t==tot
 | _=>false
def Qf8 {t tot:Nat}{fs:L_ (Nat×Nat)}(h:QeR P t fs tot=true):∃D,P.underlying t=some (.struct D)/\(D.toList.map λf=>(f.type,f.offset))=fs/\P.cellsOf t=tot:=by
 unfold QeR at h
 split at h
 ·rename_i D hg
  rw[QQ,beq_iff_eq,beq_iff_eq]at h
  exact⟨D,hg,h.1,h.2⟩
 cases h
def Rd.struct {α:Type}{fs:L_ (Nat×Nat)}{tot:Nat}{row:α->L_ V}{wf:α->L_ (DataW H)->Prop}(hB:QeR P t fs tot=true)(hf:YJ enc P w N 0 tot fs row wf):
  Rd enc P w (N+1) t row (λx d=>∃ds,d=.agg ds/\wf x ds):=by
 obtain⟨gs,ht,D,hc⟩:=Qf8 hB
 intro fuel cs d ps hN h
 cases fuel with
 | zero=>simp[DataW.trod]at h
 | succ fuel=>
  simp only[DataW.trod,ht]at h
  split at h
  ·rename_i hl
   obtain⟨xs,hxs,h⟩:=XW.1 h
   cases h
   obtain⟨x,a1,a2⟩:=hf fuel cs xs (by omega) (by rw[hl,hc];omega) (by rw[<-D,List.mapM_map];exact hxs)
   exact⟨x,⟨_,rfl,a1⟩,a2⟩
  cases h
def Qmp (P:Program)(t e n tot:Nat)(fs:L_ (Nat×Nat)):Bool:=match P.underlying t with
 | some (.array m e')=>m==n&&e'==e&&P.cellsOf t==tot&&((List.range n).map λi=>(e,i*P.cellsOf e))==fs
 | _=>false
def Qoa {t e n tot:Nat}{fs:L_ (Nat×Nat)}(h:Qmp P t e n tot fs=true):P.underlying t=some (.array n e)/\P.cellsOf t=tot/\((List.range n).map λi=>(e,i*P.cellsOf e))=fs:=by
 unfold Qmp at h
 split at h
 ·rename_i m e' hg
  simp only[QQ,beq_iff_eq]at h
  obtain⟨⟨⟨rfl,rfl⟩,h⟩,D⟩:=h
  exact⟨hg,h,D⟩
 cases h
def Rd.array {α:Type}{e n tot:Nat}{fs:L_ (Nat×Nat)}{row:α->L_ V}{wf:α->L_ (DataW H)->Prop}(hB:Qmp P t e n tot fs=true)(hf:YJ enc P w N 0 tot fs row wf):
  Rd enc P w (N+1) t row (λx d=>∃ds,d=.agg ds/\wf x ds):=by
 obtain⟨ht,hc,D⟩:=Qoa hB
 intro fuel cs d ps hN h
 cases fuel with
 | zero=>simp[DataW.trod]at h
 | succ fuel=>
  simp only[DataW.trod,ht]at h
  split at h
  ·rename_i hl
   obtain⟨xs,hxs,h⟩:=XW.1 h
   cases h
   obtain⟨x,a1,a2⟩:=hf fuel cs xs (by omega) (by rw[hl,hc];omega) (by rw[<-D,List.mapM_map];exact hxs)
   exact⟨x,⟨_,rfl,a1⟩,a2⟩
  cases h
def Ay (k:IntKind)(n:Int):Prop:=k.min<=n/\n<=k.max
def okS (s:ByteArray):Prop:=s.size<=maxLen
def Hk {α:Type}(ok:α->Prop)(l:L_ α):Prop:=l.length<=maxLen/\∀x∈l,ok x
def QrW {k:IntKind}{n:Int}{d:DataW H}(h:(Lit.int k n).wf=true/\d=.lit (.int k n)):Ay k n:=by
 have:=h.1
 simp only[Lit.wf,QQ,QB]at this
 exact this
def MV {α:Type}{ok:α->Prop}{l:L_ α}{d:DataW H}(h:wfL (λx _=>ok x) l d):Hk ok l:=by
 refine⟨h.1,λx hx=>?_⟩
 rcases h.2 with⟨_,rfl⟩|⟨es,sp,_,h3,h4⟩
 ·simp at hx
 obtain⟨i,hi⟩:=Nl.1 hx
 have D:i<es.length:=by rw[h3];exact(Xj.1 hi).1
 exact h4 i x _ hi (Qy D)
def Qqp {w:World}{r:Reach}{base t tot:Nat}{v:Value}{fs:L_ (Nat×Nat)}(h:QeR P t fs tot=true)(hv:Value.okWide P w r base t v):∃D,v=.agg D:=by
 obtain⟨gs,h1,_⟩:=Qf8 h
 obtain⟨D,h2,_⟩:=WideShapes.okWide_struct h1 hv
 exact⟨D,h2⟩
def Cz {z:Nat}{r:L_ V}(h:(Nat.beq r.length z&&r.all V.one)=true):Um z r:=by
 rw[QQ,XN]at h
 exact⟨YM h.1,h.2⟩
end
section
variable {H:Type}{enc:TypeId×Value->H}{P:Program}
def QU.law {f:FuncId}{us:L_ V}{args:Array Value}{W:World}(h:QU P f us [] (Gives (.b true) []))(hG:SJ P (λk=>k<W.heap.size) W)(hs:args.size=us.length)
  (ha:∀(j:Nat) x v,args[j]? = some x->us[j]? = some v->XB (λk=>k<W.heap.size) W x v):Calls P f args W λe w'=>e=.returned (.bool true)/\Below W.heap.size W w':=by
 refine(h (λk=>k<W.heap.size) (λ_=>none) W args ⟨λk D=>D,λ_ _ _ _ _ h=>(by cases h),λ_ _ h=>(by cases h),hs,λj x v h1 h2=>.dat (ha j x v h1 h2),λ_ _ h=>(by cases h)⟩ hG).mono ?_
 rintro e w' ⟨x,v,hs',φ',rfl,⟨rfl,_⟩,out⟩
 exact⟨by rw[out.rep.b_inv],out.os,out.tape,out.output,out.size,λk D=>out.kept k D λ_ _ h=>by cases h⟩
def QcM (hl:laidOutB P=true){W W':World}(hb:Below W.heap.size W W'):∀{ts:L_ TypeId} {vs:L_ Value} {ds:L_ (DataW H)} {ps:L_ MemPlace},(∀t∈ts,P.readableRec t=true/\t<P.types.size)->
  DataW.TrodAll enc P W 0 (λ_=>true) true ts vs ds ps->(∀x∈ps,x.block<W.heap.size)->DataW.TrodAll enc P W' 0 (λb=>decide (b<W.heap.size)) true ts vs ds ps
 | [],[],[],_,_,h,_=>h
 | t::ts,v::vs,d::ds,_,hr,⟨p,q,h1,h2,e⟩,D=>⟨p,q,Below.trod hl (hr t (XY)).1 (hr t (XY)).2 h1 hb (λx hx=>D x (by rw[e];exact QbR _ hx)),
   QcM hl hb (λt ht=>hr t (Yo _ ht)) h2 (λx hx=>D x (by rw[e];exact QhY _ hx)),e⟩
def Qqq {f:Func}{s:ChangeSpec}{D fresh:Bool}{W W':World}{args:Array Value}{ds:L_ (DataW H)}{before:L_ MemPlace}{tb:TypeId}(hl:laidOutB P=true)(hr:∀t∈f.params.toList,P.readableRec t=true/\t<P.types.size)
  (hW:DataW.Whole enc P f.params.toList s.vars D W args.toList ds [] before) (hv:s.vars=[]) (hb:Below W.heap.size W W') (hrt:f.resultTypes=#[tb]) (htb:P.underlying tb=some .bool)
  (hres:(s.fn H (ds++[])).results=[.lit (.bool true)]) (hargs:(s.fn H (ds++[])).args=ds) (hvars:(s.fn H (ds++[])).vars=[]):s.post enc P f D fresh false false W args (.bool true) W':=by
 have hW0:=hW
 obtain⟨p,q,hA,hV,rfl,_,_⟩:=hW
 have hlt:=hW0.lt
 rw[hv]at hV
 have hq:q=[]:=hV
 subst hq
 refine⟨ds,[],_,[],p,[],hW0,?_,?_,?_,?_,λh=>by cases h⟩
 ·rw[hres,hrt]
  exact⟨[],[],shut_bool htb true,rfl,rfl⟩
 ·rw[hargs]
  exact QcM hl hb hr hA λx hx=>hlt x (QbR _ hx)
 ·rw[hvars,hv];rfl
 exact World.keptBut_mono (λp hp=>hp.elim) (hb.frame (λ_=>False))
def Cl.arg1 {w:World}{v:Value}{x:V}(D:v.cells.toList=[v])(h:Cl w v.cells.toList [x]):XB (λk=>k<w.heap.size) w v x:=h.2 0 v x (by rw[D];rfl) rfl
def Cl.argS {w:World}{D:Array Value}{vs:L_ V}(h:Cl w (Value.agg D).cells.toList vs):XB (λk=>k<w.heap.size) w (.agg D) (.agg vs):=by
 refine .agg D vs (by simpa[Value.cells] using h.1) λj x v hx hv=>h.2 j x v (by simpa[Value.cells] using hx) hv
def Rd.open {α:Type}{w:World}{t:TypeId}{row:α->L_ V}{D:α->DataW H->Prop}{v:Value}{d:DataW H}{p:L_ MemPlace}(h:∀N,Rd enc P w N t row D)(hd:DataW.Trod enc P w 0 (λ_=>true) true t v d p):∃x,D x d/\Cl w v.cells.toList (row x):=by
 obtain⟨n,hn⟩:=hd
 exact h n n _ _ _ (YY _) hn
end
section
variable {P:Program}{C:Xx}{Q:Exit->St->Prop}{σ:St}{ks:L_ Fr}{o:Oper}
def Qk5 {σ':St}{φ φ':Prop}{d f:Nat}{vs us:L_ V}{M N:L_ (Nat×Nat)}{dead:L_ Nat}{ms:L_ Mode}{outs hsC:H_}{r:V}
  (hus:OZ (Ei M) ms vs=some us) (hC:HF (Ei M) (look σ.hp) M=some hsC)
  (e:cmV P σ φ d f vs M N dead ms outs r=some (σ',φ')):∃D r',GI σ M N dead outs=true/\(M.map Prod.fst).Nodup/\Vws σ.hp false false (Uo M) (λa b=>look M b=some a) vs us/\Mo σ.hp false false (Uo M) (λa b=>look M b=some a) σ.hp M hsC/\
   Mo [] false false [] (λc b=>look N b=some c) outs N D/\Vw [] false false [] (λc b=>look N b=some c) r r'/\σ'=(σ.after dead D).put d r':=by
 unfold cmV at e
 replace e:=XX e;obtain⟨e1,e⟩:=e
 simp only[QQ]at e1
 obtain⟨⟨h1,h2⟩,h3⟩:=e1
 have h2:=DX.1 h2
 have h3:=DX.1 h3
 have inj:IR M=true/\IR N=true:=by
  simp only[GI,QQ]at h1
  exact⟨h1.1.1.1,h1.1.1.2⟩
 have mM:∀a b,Ei M a=some b->look M b=some a:=λa b h=>Wa inj.1 (Hz h) h2
 have mN:∀a b,Ei N a=some b->look N b=some a:=λa b h=>Wa inj.2 (Hz h) h3
 simp only[hus,hC]at e
 split at e
 ·rename_i D hN
  split at e
  ·rename_i r' hr
   cases e
   exact⟨D,r',h1,h2,MT mM hus,Ek mM hC,Ek mN hN,OL mN hr,rfl⟩
  cases e
 cases e
def AK.callE {ι:Type}[Inhabited ι]{Φ:ι->Prop}{d f n:Nat}{ops:Array Oper}{rest:L_ Oper}{vs us:L_ V}{hsC:H_}(M N:L_ (Nat×Nat))(dead:L_ Nat)(ms:L_ Mode)(outs:ι->H_)(r:ι->V)(σ':ι->St)
  (hg:o.guard=none) (hCn:JB P C n) (hE:Jk P C o σ f vs) (hd:o.dst=some d) (hn:B_ d C)
  (hus:OZ (Ei M) ms vs=some us) (hC:HF (Ei M) (look σ.hp) M=some hsC)
  (hc:QU P f us hsC λv hs=>∃x,Φ x/\Gives (r x) (outs x) v hs)
  (e:∀x,∃φ',cmV P σ True d f vs M N dead ms (outs x) (r x)=some (σ' x,φ'))
  (k:∀x,Φ x->AK P C Q (.o ops rest) ks (σ' x)):AK P C Q (.o ops (o::rest)) ks σ:=by
 intro a w ⟨φ,hr⟩
 simp only[wpListIn,Region.wanted,hg,if_true]
 refine⟨λ_ _=>trivial,?_⟩
 obtain⟨vals,hex,h1,h2⟩:=hE φ a w hr
 rw[Qbf hex,Oper.uponIn_enter]
 obtain⟨_,e0⟩:=e default
 obtain⟨_,_,n1,n2,hv,D,_,_,_⟩:=Qk5 hus hC e0
 have hN0:=Names.of n1 n2
 refine⟨(λh=>by cases h),Qbg ((hc _ _ w _ (Ins.of_vals hr h1 h2 hN0.injM hN0.param hv D) ((hr.glob hCn.g).mono λ_ h=>.inl h)).mono ?_)⟩
 rintro e' w' ⟨x,v,hs',φ',rfl,⟨i,hΦ,rfl,hso⟩,hout⟩
 obtain⟨_,ei⟩:=e i
 obtain⟨hsN,r',n1,n2,_,_,hback,hr',hσ⟩:=Qk5 hus hC ei
 have hN:=Names.of n1 n2
 obtain⟨h3,h4⟩:=hr.after hN hout hso (λc s h=>by
  obtain⟨ob',e1⟩:=D.get.2 c s h
  obtain⟨s',ob,e2,e3,_⟩:=D.get.1 c ob' e1
  rw[h]at e2;cases e2;exact⟨ob,e3⟩) hback
 refine k i hΦ _ _ ⟨Mp φ M N dead φ',?_⟩
 rw[hd,hσ]
 exact h3.put (XE hn) (h4 hr')
def Qk6 {σ':St}{φ':Prop}{f:Nat}{vs us:L_ V}{M N:L_ (Nat×Nat)}{dead:L_ Nat}{ms:L_ Mode}{outs hsC:H_}{r:V}
  (hus:OZ (Ei M) ms vs=some us) (hC:HF (Ei M) (look σ.hp) M=some hsC)
  (e:rgV P σ f vs M N dead ms outs r=some (σ',φ')):∃D,GI σ M N dead outs=true/\(M.map Prod.fst).Nodup/\Vws σ.hp false false (Uo M) (λa b=>look M b=some a) vs us/\Mo σ.hp false false (Uo M) (λa b=>look M b=some a) σ.hp M hsC/\
   Mo [] false false [] (λc b=>look N b=some c) outs N D/\σ'=σ.after dead D:=by
 unfold rgV at e
 replace e:=XX e;obtain⟨e1,e⟩:=e
 simp only[QQ]at e1
 obtain⟨⟨h1,h2⟩,h3⟩:=e1
 have h2:=DX.1 h2
 have h3:=DX.1 h3
 have inj:IR M=true/\IR N=true:=by
  simp only[GI,QQ]at h1
  exact⟨h1.1.1.1,h1.1.1.2⟩
 have mM:∀a b,Ei M a=some b->look M b=some a:=λa b h=>Wa inj.1 (Hz h) h2
 have mN:∀a b,Ei N a=some b->look N b=some a:=λa b h=>Wa inj.2 (Hz h) h3
 simp only[hus,hC]at e
 split at e
 ·rename_i D hN
  cases e
  exact⟨D,h1,h2,MT mM hus,Ek mM hC,Ek mN hN,rfl⟩
 cases e
def AK.rangeFE {ι:Type}[Inhabited ι]{Φ:ι->Prop}{g:Operand}{ps:Array Tmp}{assign body:Code}{f n:Nat}{fs cps:L_ V}(b:Nat)(ts:L_ Nat)(M N:L_ (Nat×Nat))(dead:L_ Nat)(ms:L_ Mode)(K:Nat->Cg)(hCn:JB P C n)(hrnd:C.rnd=none)(hK:∀fn,K fn=⟨fn,ps,assign,body⟩)
  (hg:σ.opd g=some (.clo (.func f) fs cps)) (he:QaS P f=true) (hb:look σ.hp b=none) (hb2:Nat.ble 620 b=false)
  (H:∀l fn,∃(outs:ι->H_) (r:ι->V) (σ2:ι->St) (us:L_ V) (hsC:H_),OZ (Ei M) ms (fs++(.clo (.yield l) [] []::cps))=some us/\HF (Ei M) (look (σ.set b (.lp l (K fn) (snap ts σ.fr n) 0)).hp) M=some hsC/\
   QU P f us hsC (λv hs=>∃x,Φ x/\Gives (r x) (outs x) v hs)/\∀x,∃φ2 cs2 q,rgV P (σ.set b (.lp l (K fn) (snap ts σ.fr n) 0)) f (fs++(.clo (.yield l) [] []::cps)) M N dead ms (outs x) (r x)=some (σ2 x,φ2)/\look (σ2 x).hp b=some (.lp l (K fn) cs2 q)/\q≠1/\
   (Φ x->atJ (AK P C Q (.x .normal) ks ((σ2 x).kill b)) (λc=>AK P C Q (.c c) ks ((σ2 x).kill b)) (jmp q))):AK P C Q (.c (.rangeFunc g ps assign body)) ks σ:=by
 obtain rfl:K=λfn=>⟨fn,ps,assign,body⟩:=funext hK
 have hpg:=hCn.g
 replace hCn:=hCn.n
 subst hCn
 intro a w ⟨φ,hr⟩
 refine wpIn_rangeFunc λfn _=>?_
 obtain⟨outs,r,σ2,us,hsC,hus,hC,hcall,hx⟩:=H (w.heap.size+1) fn
 obtain⟨xs,ys,hev,e1,e2,e3,e4⟩:=(hr.opd hg).clo_inv
 have hb3:b<620:=AN (by rw[hb2];rfl)
 refine⟨w.heap.size+1,[{ target:=.collected w.heap.size,args:=#[] }],(w.alloc (.deferred (some []))).alloc (.loop { state:=.ready,pending:=none,fn,tmps:=a.tmps,params:=ps,assign,body,defers:=w.heap.size }),{ target:=.fn (.func f) ys,args:=xs++#[.func (.yield (w.heap.size+1)) #[] #[]] },(w.alloc (.deferred (some []))).alloc (.loop { state:=.ready,pending:=none,fn,tmps:=a.tmps,params:=ps,assign,body,defers:=w.heap.size }),f,(xs++#[.func (.yield (w.heap.size+1)) #[] #[]])++ys,(w.alloc (.deferred (some []))).alloc (.loop { state:=.ready,pending:=none,fn,tmps:=a.tmps,params:=ps,assign,body,defers:=w.heap.size }),?_,?_,λ_ _=>trivial,?_,(λh=>by cases h),?_⟩
 ·rw[show C.F.round=none from hrnd];exact run_enterLoop_outer _ _ _ _ _
 ·have hy:a.eval (.const (.func (.yield (w.heap.size+1)) #[] #[]))=.func (.yield (w.heap.size+1)) #[] #[]:=rfl
  simp only[resolve,hev,Deferred.ofValue,Xw,List.map_toArray,Ul,List.map_nil,hy]
 ·exact IP he
 have hm:=hr.mark
 have hN0:=hm.none_of_look hb
 have hsz:(w.alloc (.deferred (some []))).heap.size=w.heap.size+1:=by simp
 have hR1:=hm.alloc (cap:=0) (z:=0) hb hb3 (ob:=.lp (w.heap.size+1) ⟨fn,ps,assign,body⟩ (snap ts σ.fr C.n) 0)
  (obj:=.loop { state:=.ready,pending:=none,fn,tmps:=a.tmps,params:=ps,assign,body,defers:=w.heap.size })
  ⟨a.tmps,w.heap.size,hsz,rfl,by rw[<-hsz];exact World.alloc_heap_new _ _,by rw[hr.tmps];simp[Vm.snap],λj x v hx hv=>(hm.snap j x v hx hv).mono (hm.mono_ext _ hN0) (hm.imm_alloc b 0 0 _ hN0)⟩
 rw[hsz]at hR1
 generalize hσ1:σ.set b (.lp (w.heap.size+1) ⟨fn,ps,assign,body⟩ (snap ts σ.fr C.n) 0)=σ1 at hR1 hx hC
 generalize hw1:(w.alloc (.deferred (some []))).alloc (.loop { state:=.ready,pending:=none,fn,tmps:=a.tmps,params:=ps,assign,body,defers:=w.heap.size })=w1 at hR1 ⊢
 have hval:(xs++#[.func (.yield (w.heap.size+1)) #[] #[]])++ys=(xs.toList++(.func (.yield (w.heap.size+1)) #[] #[]::ys.toList)).toArray:=by apply Array.ext';simp
 rw[hval]
 obtain⟨_,_,_,ed,_⟩:=hx default
 obtain⟨_,n1,n2,hv,hobs,_,_⟩:=Qk6 hus hC ed
 have hNm:=Names.of n1 n2
 have hfr1:σ1.fr=σ.fr:=by rw[<-hσ1];rfl
 refine Qbg ((hcall _ _ w1 _ (Ins.of_vals (g:=false) (vs:=fs++(.clo (.yield (w.heap.size+1)) [] []::cps)) hR1 (by simp[e1,e2]) (λj x v hx hv=>?_) hNm.injM hNm.param hv hobs) ((hR1.glob hpg).mono λ_ h=>.inl h)).mono ?_)
 ·have up:=λ{x:Value} {v:V} (h:QT φ (Xl C φ w) w x v)=>(h.mono (φ':=φ) (I':=Xl C φ (w.alloc (.deferred (some [])))) (w':=w.alloc (.deferred (some []))) (λ_ _ h=>h) λk hk=>⟨⟨by have:=hk.1;simp;omega,hk.2⟩,Below.heap_alloc w _ k hk.1⟩).mono (hm.mono_ext ⟨w.heap.size+1,0,0,[],0⟩ hN0) (by
   have:=hm.imm_alloc b 0 0 (.loop { state:=.ready,pending:=none,fn,tmps:=a.tmps,params:=ps,assign,body,defers:=w.heap.size }) hN0
   rw[hsz,hw1]at this;exact this)
  by_cases c1:j<fs.length
  ·rw[Jz (by simpa using (by omega:j<xs.size))]at hx
   rw[Jz c1]at hv
   exact up (e3 j x v (by simpa using hx) hv)
  rw[Wl (by simp;omega)]at hx
  rw[Wl (by omega)]at hv
  simp only[Array.length_toList]at hx
  rw[e1]at hx
  generalize j-fs.length=i at hx hv
  cases i with
  | zero=>
   simp at hx hv;subst hx;subst hv
   exact .clo (.yield _) #[] #[] [] [] rfl rfl (λj x v h=>by simp at h) (λj x v h=>by simp at h)
  | succ i=>simp only[QeH]at hx hv;exact up (e4 i x v (by simpa using hx) hv)
 rintro e w' ⟨x,v,hs',φ',rfl,⟨i,hΦ,rfl,hso⟩,hout⟩
 obtain⟨_,cs2,q,ei,hq,hq1,hk⟩:=hx i
 replace hk:=hk hΦ
 obtain⟨hsN,n1,n2,_,_,hback,hσ2⟩:=Qk6 hus hC ei
 have hNm:=Names.of n1 n2
 obtain⟨k3,_⟩:=hR1.after hNm hout hso (λc s h=>by
  obtain⟨ob',e1⟩:=hobs.get.2 c s h
  obtain⟨s',ob,e2,e3,_⟩:=hobs.get.1 c ob' e1
  rw[h]at e2;cases e2;exact⟨ob,e3⟩) hback
 rw[<-hσ2]at k3
 obtain⟨B,hB,tmps,D,f1,f2,f3,f4,f5⟩:=k3.lp hq
 have hst:lst q≠.busy:=by
  match q,hq1 with
  | 0,_=>exact(by intro h;cases h)
  | 1,h=>exact absurd rfl h
  | k+2,_=>exact(by intro h;cases h)
 refine⟨_,_,run_endLoop f3 hst,?_⟩
 have hkill:=k3.killTo hB (w':=w'.putObj (w.heap.size+1) (.loop { state:=.exhausted,pending:=jmp q,fn,tmps,params:=ps,assign,body,defers:=D })) rfl rfl rfl World.putObj_size (λk hk=>World.putObj_heap_other (by rw[<-f1];exact hk))
 simp only
 cases hj:jmp q with
 | none=>rw[hj]at hk hkill;exact hk _ _ ⟨_,hkill⟩
 | some c=>rw[hj]at hk hkill;exact hk _ _ ⟨_,hkill⟩
def AK.rangeF {Q:Exit->St->Prop}{ks:L_ Fr}{g:Operand}{ps:Array Tmp}{assign body:Code}{f n:Nat}{fs cps:L_ V}(b:Nat)(ts:L_ Nat)(M N:L_ (Nat×Nat))(dead:L_ Nat)(ms:L_ Mode)(K:Nat->Cg)(hCn:JB P C n)(hrnd:C.rnd=none)(hK:∀fn,K fn=⟨fn,ps,assign,body⟩)
  (hg:σ.opd g=some (.clo (.func f) fs cps)) (he:QaS P f=true) (hb:look σ.hp b=none) (hb2:Nat.ble 620 b=false)
  (H:∀l fn,∃outs r σ2 φ2 D q,rgV P (σ.set b (.lp l (K fn) (snap ts σ.fr n) 0)) f (fs++(.clo (.yield l) [] []::cps)) M N dead ms outs r=some (σ2,φ2)/\φ2/\look σ2.hp b=some (.lp l (K fn) D q)/\q≠1/\
   atJ (AK P C Q (.x .normal) ks (σ2.kill b)) (λc=>AK P C Q (.c c) ks (σ2.kill b)) (jmp q)):AK P C Q (.c (.rangeFunc g ps assign body)) ks σ:=by
 refine AK.rangeFE (ι:=Unit) (Φ:=λ_=>True) b ts M N dead ms K hCn hrnd hK hg he hb hb2 λl fn=>?_
 obtain⟨outs,r,σ2,φ2,D,q,e,hφ2,hq,hq1,hk⟩:=H l fn
 have e':=e
 unfold rgV at e
 replace e:=XX e;obtain⟨_,e⟩:=e
 split at e
 ·rename_i us hus
  split at e
  ·rename_i hsC hC
   split at e
   ·cases e
    exact⟨λ_=>outs,λ_=>r,λ_=>_,us,hsC,hus,hC,hφ2.mono (λv hs h=>⟨(),trivial,h⟩),λ_=>⟨_,D,q,e',hq,hq1,λ_=>hk⟩⟩
   cases e
  cases e
 cases e
end
def Qob (n:Nat)(p:Int×Int):O_ (Nat⊕Empty):=some (.inl (n+1))
def Qgm : ∀(l:L_ (Int×Int)) (n:Nat),Dg Qob n l=some (.inl (n+l.length)):=by
 intro l
 induction l with
 | nil=>intro n;rfl
 | cons p l h=>intro n;simp only[Dg,Qob,Qd,Sum.elim_inl];rw[h];simp[Nat.add_comm,Nat.add_left_comm]
def Qpb (l:L_ (Int×Int))(n:Nat):Hj Qob n l=some (.inl (n+l.length)):=LA.2 ⟨λD h=>by rw[Qgm,Qgm,h.length_eq],Qgm l n⟩
def Qoc {l m:L_ Int}(h:l.Perm m):DI l=DI m:=by
 rw[Qcg,Qcg]
 refine List.Perm.eq_of_pairwise (le:=λx y:Int=>x<=y) ?_ ?_ ?_ ?_
 ·intro a b _ _ D h2;omega
 ·exact(List.pairwise_mergeSort (le:=λx y:Int=>decide (x<=y)) (λa b c D h2=>by simp at *;omega) (λa b=>by simp;omega) l).imp λh=>by simpa using h
 ·exact(List.pairwise_mergeSort (le:=λx y:Int=>decide (x<=y)) (λa b c D h2=>by simp at *;omega) (λa b=>by simp;omega) m).imp λh=>by simpa using h
 exact((List.mergeSort_perm l _).trans h).trans (List.mergeSort_perm m _).symm
def spZ : L_ Int:=(List.range 256).map λc=>if Lib.isSp (UInt8.ofNat c)then 1 else 0
def Qnd {P:Program}{W:World}(h:Lib.TabIs P W "strings.asciiSpace" .u8 spZ):SJ P (fun k=>k<W.heap.size) W:=fun g hg=>by
 have hc:∀c:Nat,c<256->W.cell? ⟨g,c,none⟩=some (.int .u8 (if Lib.isSp (UInt8.ofNat c)then 1 else 0)):=λc hc=>by
  rw[h.cell hg c (by simp only[spZ,Lv,ZQ];exact hc)]
  simp[spZ,List.getD,hc]
 have h0:g<W.heap.size:=by
  have:=hc 0 (by decide)
  apply Nat.lt_of_not_le
  intro hle
  have e:W.heap[g]? = none:=Array.getElem?_eq_none hle
  simp[World.cell?,e]at this
 exact⟨h0,h0,hc⟩
def Qmq {P:Program}{W:World}{l r:L_ (String×DataW Unit)}{g:Nat}{t e:TypeId}(n:Nat)(hl:l.drop n=("strings.asciiSpace",Lib.tabData .u8 spZ)::r)(hp:(l.all fun x=>x.2.handleName?.isNone)=true)
  (hg:P.globalNamed "strings.asciiSpace" = some g) (hty:(P.globals[g]?).map (·.type)=some t) (ht:P.underlying t=some (.array 256 e)) (he:P.underlying e=some (.int .u8)) (hce:P.cellsOf e=1) (hct:P.cellsOf t=256)
  (h:laidMetH P l W):SJ P (λk=>k<W.heap.size) W:=by
 rw[MakeChecks.laidMetH_plain _ _ _ hp]at h
 have key:∀(n:Nat) (l:L_ (String×DataW Unit)),laidMet P l W->laidMet P (l.drop n) W:=by
  intro n
  induction n with
  | zero=>intro l h;exact h
  | succ n ih=>
   intro l h
   cases l with
   | nil=>exact h
   | cons x l=>exact ih l h.tail
 have h2:=key n l h
 rw[hl]at h2
 exact Qnd (Lib.tabIs_of_head hg hty ht he hce hct h2)
variable {H:Type}{P:Program}
def Sz (P:Program)(t:Nat)(d:DataW H):Prop:=∀n∈d.weights P t,n<=reachBytes
def Sz.all {ts:L_ TypeId}{D:L_ (DataW H)}(h:(DataW.weightsEach P ts D).all (·<=reachBytes)=true){j:Nat}{t:Nat}{d:DataW H}(ht:ts[j]? = some t)(hd:D[j]? = some d):Sz P t d:=λn hn=>by
 have:=XN.1 h n (DataW.weights_mem_each ht hd n hn)
 simpa using this
def Sz.field {t:Nat}{fs:Array Field}(hu:P.underlying t=some (.struct fs)){D:L_ (DataW H)}(h:Sz P t (.agg D)){j:Nat}{u:Nat}{d:DataW H}(ht:(fs.toList.map (·.type))[j]? = some u)(hd:D[j]? = some d):Sz P u d:=λn hn=>h n (by
 simp only[DataW.weights,hu]
 exact DataW.weights_mem_each ht hd n hn)
def Qns {e:Nat}{d:DataW H}{n:Nat}(hn:n∈d.weights P e):∀{D:L_ (DataW H)},d∈D->n∈DataW.weightsAll P e D
 | [],h=>by cases h
 | x::D,h=>by
  simp only[DataW.weightsAll,YD]
  rcases Yw.1 h with rfl | h
  ·exact .inl hn
  exact .inr (Qns hn h)
def szL {α:Type}{t e:Nat}{ok sz:α->Prop}{l:L_ α}{d:DataW H}(hu:P.underlying t=some (.slice e))(h:wfL (λx d=>ok x/\(Sz P e d->sz x)) l d):Hk ok l/\(Sz P t d->l.length*P.bytesOf e<=reachBytes/\∀x∈l,sz x):=by
 obtain⟨h1,⟨rfl,rfl⟩|⟨es,sp,rfl,hl,hw⟩⟩:=h
 ·exact⟨⟨h1,λx h=>by cases h⟩,λ_=>⟨by simp,λx h=>by cases h⟩⟩
 have key:∀x∈l,∃d∈es,ok x/\(Sz P e d->sz x):=λx hx=>by
  obtain⟨i,hi,rfl⟩:=HX.1 hx
  have D:i<es.length:=by omega
  exact⟨es[i],Xn D,hw i _ _ (Qy hi) (Qy D)⟩
 refine⟨⟨h1,λx hx=>by obtain⟨_,_,h,_⟩:=key x hx;exact h⟩,λhs=>⟨?_,λx hx=>?_⟩⟩
 ·have:=hs ((es.length+sp.length)*P.bytesOf e) (by simp only[DataW.weights,hu];exact XY)
  rw[<-hl]
  exact Yb (JP _ (Nat.le_add_right _ _)) this
 obtain⟨d,hd,_,h⟩:=key x hx
 refine h λn hn=>hs n ?_
 simp only[DataW.weights,hu]
 exact Yo _ (QbR _ (Qns hn hd))
def QrX {α:Type}{t e b:Nat}{ok:α->Prop}{l:L_ α}{d:DataW H}(hu:P.underlying t=some (.slice e))(hb:P.bytesOf e=b)(h:wfL (λx _=>ok x) l d):Hk ok l/\(Sz P t d->l.length*b<=reachBytes):=by
 subst hb
 have:=szL (P:=P) (t:=t) (e:=e) (sz:=λ_=>True) hu (show wfL (λx d=>ok x/\(Sz P e d->True)) l d from⟨h.1,h.2.imp id λ⟨es,sp,D,h2,h3⟩=>⟨es,sp,D,h2,λi x e a b=>⟨h3 i x e a b,λ_=>trivial⟩⟩⟩)
 exact⟨this.1,λhs=>(this.2 hs).1⟩
section
variable {κ α:Type}[DecidableEq κ]
def Qii {π:Type}{L:L_ (Nat×π)}{h:Array Nat}{y:Nat}:YN L (h.push y)=(YN L h).filter λq=>!(q.1==y):=by
 unfold YN
 rw[List.filter_filter]
 apply List.filter_congr
 intro q _
 rw[ZN]
 simp[Array.mem_push]
 constructor
 ·rintro ⟨D,h2⟩;exact⟨h2,D⟩
 rintro ⟨D,h2⟩;exact⟨h2,D⟩
structure TL (L L':List (Nat×(κ×α))) (seen:Array Nat):Prop where
 keys:L'.map (·.2.1)=L.map (·.2.1)
 left:YN L' seen=YN L seen
def TL.nil {L L':L_ (Nat×(κ×α))}{D:Array Nat}(h:TL L L' D)(hq:YN L' D=[]):YN L D=[]:=by rw[<-h.left];exact hq
end
section
variable {P:Program}{C:Xx}{σ:St}{o:Oper}{κ α:Type}[DecidableEq κ]
end
def AK.know {P:Program}{C:Xx}{Q:Exit->St->Prop}{σ:St}{ks:L_ Fr}{pt:Pt}{p:Prop}(h:∀a w,R C σ a w->p)(k:p->AK P C Q pt ks σ):AK P C Q pt ks σ:=
 AK.weakenE (ι:=PLift p) (f:=λ_=>σ) (λa w D=>⟨⟨h a w D⟩,D⟩) λi=>k i.down
def AK.openMapK {P:Program}{C:Xx}{Q:Exit->St->Prop}{σ:St}{ks:L_ Fr}{κ α:Type}[DecidableEq κ]{K:TypeId}{e:κ->V}{val:κ->Value}{f:α->V}{lt:L_ (κ×α)}{b:Nat}{pt:Pt}(hk:Up P K e val)(hb:look σ.hp b=some (.map (QN e f lt)))
  (h:∀bm D (L:L_ (Nat×(κ×α))),(L.map (·.1)).Nodup->(L.map (·.2.1)).Nodup->(L.map Prod.snd).Perm lt->AK P C Q pt ks (σ.set b (.mapX bm D (HG e f L) (QN e f lt)))):AK P C Q pt ks σ:=by
 refine AK.openMap hk hb λbm D L h1 h2=>AK.know (p:=(lt.map Prod.fst).Nodup) (λa w ⟨φ,hr⟩=>?_) λhn=>h bm D L h1 ?_ h2
 ·rcases hr.heap b _ (St.look_set_same _ _ _)with⟨B,hB,_,M,_,_,_,g3,_⟩|⟨_,e'⟩
  ·exact(TK hk.einj).1 g3
  exact e'.elim
 have:=(h2.map Prod.fst).nodup_iff.2 hn
 rw[TD]at this
 exact this
def V.lo1 : V->V
 | .sln _ z rs=>.sl z rs
 | v=>v
def V.lo2 : V->V
 | .sln _ z rs=>.sl z (rs.map (List.map V.lo1))
 | v=>v
def V.lo3 : V->V
 | .tup h=>.tup (h.map V.lo2)
 | v=>v.lo2
def V.lo1_one (v:V):v.lo1.one=v.one:=by cases v<;>rfl
def XB.lo {I:Nat->Prop}{w:World}{x:Value}{v:V}(d:XB I w x v):XB I w x v.lo1:=by cases v<;>first | exact d | exact d.lo1
def Um.lo {z:Nat}{r:L_ V}(h:Um z r):Um z (r.map V.lo1):=⟨by simpa using h.1,λv hv=>by obtain⟨u,D,rfl⟩:=YL.1 hv;rw[V.lo1_one];exact h.2 u D⟩
def XB.loR {I:Nat->Prop}{w:World}{x:Value}{z:Nat}{rs:L_ (L_ V)}(d:XB I w x (.sl z rs)):XB I w x (.sl z (rs.map (List.map V.lo1))):=by
 cases d with
 | sl0=>exact .sl0 _ _ _
 | sl b off len cap _ _ c hI hl hc hr h hd=>
  refine .sl b off len cap z _ c hI (by simpa using hl) hc (λr D=>?_) h (λi r hi j v hj=>?_)
  ·obtain⟨s,hs,rfl⟩:=YL.1 D;exact(hr s hs).lo
  rw[Yf]at hi
  obtain⟨s,hs,rfl⟩:=XW.1 hi
  rw[Yf]at hj
  obtain⟨u,hu,rfl⟩:=XW.1 hj
  exact(hd i s hs j u hu).lo
def QT.lo2 {φ:Nat->O_ Xa}{I:Nat->Prop}{w:World}{x:Value}{v:V}(d:QT φ I w x v):QT φ I w x v.lo2:=by
 cases v with
 | sln β z rs=>cases d with | dat d=>exact .dat d.lo1.loR
 | _=>exact d
def QT.lo3 {φ:Nat->O_ Xa}{I:Nat->Prop}{w:World}{x:Value}{v:V}(d:QT φ I w x v):QT φ I w x v.lo3:=by
 cases v with
 | tup cs=>
  obtain⟨xs,rfl,hs,hr⟩:=d.tup_inv
  refine .tup xs _ (by simpa using hs) λj y u hy D=>?_
  rw[Yf]at D
  obtain⟨s,h,rfl⟩:=XW.1 D
  exact(hr j y s hy h).lo2
 | sln β z rs=>exact d.lo2
 | _=>exact d
section
variable {P:Program}{C:Xx}{Q:Exit->St->Prop}{σ σ':St}{ks:L_ Fr}{ops:Array Oper}{o:Oper}{l:L_ Oper}
def Pl (I:Nat->Prop)(w:World)(β k:Nat):Prop:=I k/\β<=k/\∃h E,w.heap[k]? = some (.cells h E (0,0))
def V.new1 (β:Nat):V->Prop
 | .sln γ _ rs=>γ=β/\∀r∈rs,∀v∈r,v.sca=true
 | v=>v.sca=true
def XB.new1 {β:Nat}{I:Nat->Prop}{w:World}{x:Value}{v:V}(d:XB I w x v)(h:v.new1 β):XB (Pl I w β) w x v.lo1:=by
 cases v with
 | sln γ z rs=>
  obtain⟨rfl,h2⟩:=h
  refine XB.lo1 (β:=γ) ?_
  cases d with
  | sln0=>exact .sln0 _ _ _ _
  | sln _ b off len cap _ _ cs E hβ hI hl hc hr D hsz hd=>exact .sln γ b off len cap z rs cs E hβ ⟨hI,hβ,cs,E,D⟩ hl hc hr D hsz λi r hi j v hj=>(hd i r hi j v hj).sca (h2 r (XH hi) v (XH hj))
 | _=>first | exact d.sca h | cases h
def Ql.appE0 {T U d e e' z z' by_ by':Nat}{x y:Operand}{us:L_ (L_ V)}{zs:L_ V}(ho:o.op=.call { callee:=.builtin .append,args:=#[x,y],argTypes:=#[T,U] })(hd:o.dst=some d)(hn:B_ d C)(hx:σ.opd x=some .e0)
  (hT:Yk P T=some (e,z,by_)) (hU:Yk P U=some (e',z',by')) (hz:Ya P e=some zs) (hzl:zs.length=z) (hz0:z≠0) (hb1:1<=by_) (hb2:by_<=32768) (hsm:decide (us.length<=4294967296)=true) (hy:σ.opd y=some (.sl z us)):Ql P C o σ (σ.put d (.sl z us)):=by
 refine Ql.val λφ a w hr=>?_
 obtain⟨hu,i,hi,rfl,rfl⟩:=JJ hT
 obtain⟨hu',_⟩:=JJ hU
 obtain⟨i',zv,hi',hz',hmap⟩:=Bh hz
 rw[hi]at hi';cases hi'
 have hsm:=Xo hsm
 have hzs:zv.cells.size=i.size:=by rw[<-hzl,<-hmap];simp
 have hpos:0<i.size:=Nat.pos_of_ne_zero hz0
 have hbytes:us.length*i.bytes<=140737488355328:=Yb (Nat.mul_le_mul hsm hb2) (by decide)
 have hexec:∀base n c v w',a.eval x=.slice base n c->(Builtin.append_ #[T,T] o.type #[.slice base n c,a.eval y]).run P w=.ok v w'->(execOp a.eval o).run P w=.ok (.value v) w':=by
  intro base n c v w' h1 h
  simp only[execOp,ho,resolve,invoke,builtin,Xh,Xw,Xq,List.map_toArray,Ul,List.map_nil,h1,Qdw hu hu' hi,h]
 obtain⟨q,hq⟩:∃q,a.eval x=.slice q 0 0:=by
  have:=hr.opd hx
  generalize a.eval x=x0 at this
  cases this with | dat d=>cases d with | e0 q=>exact⟨q,rfl⟩
 rcases(hr.opd hy).source_sl with⟨p,c,hp,h0⟩|⟨p,c,D,hyv,hnews,hcells,hone,hokU,hrowU⟩
 ·subst h0
  exact⟨.slice q 0 0,w,φ,hexec _ _ _ _ _ hq (by rw[hp];exact HZ hu hi q p 0 0 c (YY _)),by rw[hd];exact hr.put (XE hn) (.dat (.sl0 _ _ _))⟩
 by_cases h0:us=[]
 ·subst h0
  exact⟨.slice q 0 0,w,φ,hexec _ _ _ _ _ hq (by rw[hyv];exact HZ hu hi q (some p) 0 0 c (YY _)),by rw[hd];exact hr.put (XE hn) (.dat (.sl0 _ _ _))⟩
 have hpos2:0<us.length:=List.length_pos_iff.2 h0
 have run:∃cap,us.length<=cap/\(Builtin.append_ #[T,T] o.type #[.slice q 0 0,a.eval y]).run P w=.ok (.slice (some ⟨w.heap.size,0,none⟩) us.length cap) (w.drew.alloc (.cells (D.toArray++Builtin.zeroCells zv.cells (cap-us.length)) e)):=by
  cases q with
  | none=>
   refine⟨grownCap w us.length 0 e,grownCap_ge w us.length 0 e,?_⟩
   rw[hyv]
   exact run_append_nil (P:=P) w T o.type e i zv hu hi hz' p us.length c D hnews hcells hpos2 (by omega) (by omega)
  | some q=>
   refine⟨grownCap w (0+us.length) 0 e,by have:=grownCap_ge w (0+us.length) 0 e;omega,?_⟩
   rw[hyv]
   have:=run_append_grow (P:=P) w T o.type e i zv hu hi hz' q 0 0 [] (by simp) (λj v hj=>by simp at hj) p us.length c D hnews hcells (by omega) (by omega) (growslice_fits (by omega) (by simpa using hbytes))
   simpa using this
 obtain⟨cap,hge,hrun⟩:=run
 refine⟨_,_,φ,hexec _ _ _ _ _ hq hrun,?_⟩
 rw[hd]
 have hold:∀k,k<w.heap.size->(w.drew.alloc (.cells (D.toArray++Builtin.zeroCells zv.cells (cap-us.length)) e)).heap[k]? = w.heap[k]? := λk hk=>heap_alloc_old w.drew _ hk
 have hst:=hr.step (w':=w.drew.alloc (.cells (D.toArray++Builtin.zeroCells zv.cells (cap-us.length)) e)) rfl rfl rfl (by simp) hold
 refine hst.put (XE hn) (.dat (.sl w.heap.size 0 us.length cap i.size us (λj=>D.getD j undef) ⟨by simp,λh=>absurd hr.size (by omega),λo B hB hk=>absurd (hr.lt o B _ hB hk).1 (Nat.lt_irrefl _)⟩ rfl hge hokU (λj hj=>?_) (λm r hm j v hj=>?_)))
 ·have hlt:j<D.length:=by omega
  have hh:=heap_alloc_new w.drew (.cells (D.toArray++Builtin.zeroCells zv.cells (cap-us.length)) e)
  have hh:(w.drew.alloc (.cells (D.toArray++Builtin.zeroCells zv.cells (cap-us.length)) e)).heap[w.heap.size]? = _:=hh
  simp only[World.cell?,hh,US]
  rw[Array.getElem?_append_left (by simpa using hlt)]
  simp[List.getD_eq_getElem?_getD,hlt]
 obtain⟨u,hu1,hu2⟩:=hrowU m r hm j v hj
 rw[List.getD_eq_getElem?_getD,hu1]
 exact hu2.mono λk hk=>⟨⟨GH hk.1 (by simp),hk.2⟩,hold k hk.1⟩
end
section
variable {P:Program}{C:Xx}{σ:St}{o:Oper}{A:Nat->Nat}
end
end Go.Vm
namespace Go.Vm
open Go Go.RowKit Go.Shelf Go.Lib Go.Proofs
variable {P:Program}{ρ:Ren}{n1 n2:String}{E z by_:Nat}{zv:Value}
def CA (I:Nat->Prop)(w:World)(z:Nat)(l:L_ Value)(rs:L_ (L_ V)):Prop:=l.length=rs.length*z/\(∀r∈rs,Um z r)/\(∀u∈l,u.oneCell'=true)/\∀(i:Nat) r,rs[i]? = some r->∀(j:Nat) v,r[j]? = some v->∃u,l[i*z+j]? = some u/\XB I w u v
def CA.mono {I I':Nat->Prop}{w w':World}(D:∀k,I k->I' k/\w'.heap[k]? = w.heap[k]?){l:L_ Value}{rs:L_ (L_ V)}(h:CA I w z l rs):CA I' w' z l rs:=
 ⟨h.1,h.2.1,h.2.2.1,λi r hi j v hj=>let ⟨u,hu,hD⟩:=h.2.2.2 i r hi j v hj;⟨u,hu,hD.mono D⟩⟩
section
variable {C:Xx}{σ:St}{o:Oper}
end
section
variable {P:Program}{C:Xx}{σ:St}{o:Oper}
def Ql.appSB {T U d e e' z z' by_ by' b n m:Nat}{x y:Operand}{rs us D:L_ (L_ V)}{zs:L_ V}(ho:o.op=.call { callee:=.builtin .append,args:=#[x,y],argTypes:=#[T,U] })
  (hd:o.dst=some d) (hn:B_ d C) (hx:σ.opd x=some (.own b n)) (hb:look σ.hp b=some (.arr z rs)) (hb1:Nat.ble 620 b=false) (hnl:rs.length=n)
  (hT:Yk P T=some (e,z,by_)) (hU:Yk P U=some (e',z',by')) (hz:Ya P e=some zs) (hzl:zs.length=z) (hz0:z≠0) (hb0:1<=by_) (h:decide ((n+us.length)*by_<=140737488355328)=true)
  (hy:σ.opd y=some (.sl z us)) (he:rs++us=D) (hm:n+us.length=m):Ql P C o σ (σ.app b z d m D):=
 Ql.appendB ho hd hn hx hb hb1 hnl hT hU hz hzl hz0 (Yb (Nat.le_mul_of_pos_right _ hb0) (Xo h)) (Xo h) (λφ a w hr=>(hr.opd hy).source_sl) he hm
def QeS {α β:Type}{us:L_ α}{y:L_ β}{n b L:Nat}(h:decide ((n+y.length)*b<=L)=true)(e:us.length=y.length):decide ((n+us.length)*b<=L)=true:=by rw[e];exact h
end
section
variable {P:Program}{C:Xx}{o:Oper}{σ:St}
end
def Ql.lookup0 {P:Program}{C:Xx}{o:Oper}{σ:St}{T d b K E:Nat}{x y:Operand}{κ α:Type}[DecidableEq κ]{e:κ->V}{val:κ->Value}{f:α->V}{l:L_ (κ×α)}{k:κ}(ho:o.op=.lookup T x y false)(hd:o.dst=some d)
  (hn:B_ d C) (hx:σ.opd x=some (.map b)) (hb:look σ.hp b=some (.map (QN e f l))) (hy:σ.opd y=some (e k)) (hT:NR P T=some (K,E)) (h:Up P K e val) (hz:Ql4 P E=true)
  (hm:(QR l k).isNone=true):Ql P C o σ (σ.put d .e0):=by
 refine Ql.same hd hn λφ a w hr=>?_
 obtain⟨B,hB,he⟩:=(hr.opd hx).map_inv
 have hyv:a.eval y=val k:=h.inv _ _ _ _ ((hr.opd hy).toDat (h.edat k))
 obtain⟨D,hD,_⟩:=h.d
 obtain⟨es,clock,h1,h2,h3,h4,h5,h6⟩:=DV.find h hD (hr.block hB hb) k
 obtain⟨i,hi,hzx⟩:=Ql5 hz
 rcases h6 with⟨g1,g2,_⟩|⟨j,xx,v,g1,g2,g3,g4,g5⟩
 ·refine⟨.slice none 0 0,?_,.dat (.e0 _)⟩
  simp[execOp,ho,he,hyv,Instr.lookup,run_underlying (Fq hT),MapKept.run_getObj_map h1,MapKept.run_checkKey hD h5,MapKept.run_findKey hD g2,zeroValue,typeInfo,hi,hzx]
 rw[Option.isNone_iff_eq_none.1 hm]at g1;cases g1
noncomputable abbrev V.Y:V:=.lit (.slice none 0 0)
end Go.Vm
