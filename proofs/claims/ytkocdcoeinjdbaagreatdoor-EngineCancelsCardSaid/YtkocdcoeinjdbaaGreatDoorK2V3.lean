/- A part of the proof. -/
import Derived.Test.YtkocdcoeinjdbaaGreatDoorK2V2
import Derived.RangeFuncIn
import Derived.Shelf.Sort.Plain
import Derived.Shelf.Slices.In.SortNone
import Derived.Laws.BytesString
import Derived.Shelf.Slices.CompactI
import Derived.Shelf.Strings.Fields
import Derived.Test.YtkocdcoeinjdbaaGreatDoorK2V2
import Derived.Carry
import Derived.ReadAgain
import Derived.OpenShut
import GoSem.ClaimJoined
import Derived.Lib.LaidTab
import Derived.LaidMore
import Derived.MakeChecks
import Derived.Stop.LaidErr
import Derived.Stop.Joined
import Derived.SizedLaws
import Derived.Handed
import Derived.Shelf.Spec.SlicesInsertGrow
set_option linter.all false
namespace Go.Vm
open Go Go.RowKit
def Qew (h:L_ V):L_ Tmp->L_ V->L_ V
 | p::y,v::vs=>Qew (h.set p v) y vs
 | _,_=>h
def QjW {φ:Nat->O_ Xa}{I:Nat->Prop}{w:World}:∀(ps:L_ Tmp) (h:L_ Value) (vs:L_ V) (D:Array Value) (cs:L_ V),h.length=vs.length->D.size=cs.length->
  (∀(j:Nat) x v,D[j]? = some x->cs[j]? = some v->QO φ I w x v)->(∀(j:Nat) x v,h[j]? = some x->vs[j]? = some v->QO φ I w x v)->
  ((ps.zip h).foldl (λD p=>D.setIfInBounds p.1 p.2) D).size=(Qew cs ps vs).length/\∀(j:Nat) x v,((ps.zip h).foldl (λD p=>D.setIfInBounds p.1 p.2) D)[j]? = some x->(Qew cs ps vs)[j]? = some v->QO φ I w x v:=by
 intro ps
 induction ps with
 | nil=>intro h vs D cs _ h2 h3 _;cases vs<;>exact⟨h2,h3⟩
 | cons p ps ih=>
  intro h vs D cs h1 h2 h3 h4
  cases h with
  | nil=>cases vs with
   | nil=>exact⟨h2,h3⟩
   | cons=>cases h1
  | cons y h=>cases vs with
   | nil=>cases h1
   | cons v vs=>
    refine ih h vs (D.setIfInBounds p y) (cs.set p v) (by simpa using h1) (by simpa using h2) (λj x u hx hu=>?_) λj x u hx hu=>h4 (j+1) x u hx hu
    by_cases e:p=j
    ·subst e
     rw[Array.getElem?_setIfInBounds_self]at hx
     rw[List.getElem?_set_self']at hu
     split at hx
     ·rename_i hlt
      cases hx
      rw[QR (by omega)]at hu
      cases hu
      exact h4 0 _ _ rfl rfl
     cases hx
    rw[Qhf e]at hx
    rw[Ms e]at hu
    exact h3 j x u hx hu
def OU (P:Program)(l:Nat)(K:AR)(us:L_ V)(hs:H_)(D:V->H_->Prop):Prop:=
 ∀(S:Nat->Prop) (φ:Nat->O_ Xa) (w:World) (h:Array Value),Ins S φ w h us hs->NK P S w->
  RoundIn Fence.wide 0 P l K.fn h K.assign K.body w λe w'=>∃x v y φ',e=.returned x/\D v y/\Outs S φ w φ' w' x v y
def Qmf {C:XA}{n:Nat}{P:Program}{l:Nat}{f:FuncId}{tmps:Array Value}{assign body:Code}{w:World}{R:Ending->World->Prop}(h:RoundIn Fence.wide 0 P l f tmps assign body w R):RoundIn C.F n P l f tmps assign body w R:=
 ⟨trivial,λc y _=>h.2 c y (room_wide _)⟩
section
variable {P:Program}{C:XA}{φ:Nat->O_ Xa}{σ:St}{a:Act}{w:World}{o:Oper}
def RR.lp (h:RR C φ σ a w){b l:Nat}{K:AR}{y:L_ V}{q:Nat}(D:look σ.hp b=some (.lp l K y q)):∃B,φ b=some B/\QlD φ (Xj C φ w) w B l K y q:=by
 rcases h.heap b _ D with h | ⟨_,h⟩
 ·exact h
 exact h.elim
def RR.lpSet (h:RR C φ σ a w){b l:Nat}{K:AR}{cs:L_ V}{q q':Nat}(hb:look σ.hp b=some (.lp l K cs q)):
  ∃r:Loop,w.heap[l]? = some (.loop r)/\r.state=lst q/\r.pending=VM q/\RR C φ (σ.set b (.lp l K cs q')) a (w.putObj l (.loop { r with state:=lst q',pending:=VM q' })):=by
 obtain⟨B,hB,tmps,D,rfl,h1,h2,h3,h4⟩:=h.lp hb
 refine⟨_,h2,rfl,rfl,?_⟩
 have hlt:=(h.lt b B B.b hB B.self).1
 have hk:∀k,k≠B.b->(w.putObj B.b (.loop { state:=lst q',pending:=VM q',fn:=K.fn,tmps,params:=K.ps,assign:=K.assign,body:=K.body,defers:=D })).heap[k]? = w.heap[k]? := λk hk=>World.putObj_heap_other hk
 refine h.write hB rfl rfl rfl World.putObj_size hk ⟨tmps,D,rfl,h1,World.putObj_heap_same hlt,h3,λj x v hx hv=>?_⟩
 refine(h4 j x v hx hv).mono (λ_ _ h=>h) λk y=>⟨⟨by rw[World.putObj_size];exact y.1,y.2⟩,hk k λe=>y.2.2 b B hB (.inl e)⟩
def Qf.yield {d b l:Nat}{K:AR}{cs:L_ V}{q:Nat}{x:Operand}{ags:Array Operand}{ts:Array TypeId}{M N:L_ (Nat×Nat)}{dead:L_ Nat}{hsC outs hsN:H_}{vs us:L_ V}{r r':V}(ho:o.op=.call { callee:=.value x,args:=ags,argTypes:=ts })
  (hx:σ.opd x=some (.clo (.yield l) [] [])) (hlp:look σ.hp b=some (.lp l K cs q)) (hq:q=0) (ha:σ.opsV ags.toList=some vs) (hps:vs.length=K.ps.size) (hd:o.dst=some d) (hn:B_ d C) (hpg:C.pg P)
  (hnm:DK σ M N dead outs=true) (hnd:(M.map Prod.fst).Nodup)
  (hv:Vws σ.hp false false (Et M) (λa b=>look M b=some a) (Qew cs K.ps.toList vs) us) (hobs:Iy σ.hp false false (Et M) (λa b=>look M b=some a) σ.hp M hsC)
  (hc:OU P l K us hsC (Gives r outs)) (hback:Iy [] false false [] (λc b=>look N b=some c) outs N hsN) (hr':Vw [] false false [] (λc b=>look N b=some c) r r'):
  Qf P C o σ ((σ.after dead hsN).put d r'):=by
 intro a w ⟨φ,hr⟩ next Q hnext
 subst hq
 have hN:=Names.of hnm hnd
 refine⟨λ_ _=>trivial,?_⟩
 obtain⟨h1,h2⟩:=hr.opsV _ _ ha
 obtain⟨xs,ys,hev,e1,e2,_,_⟩:=(hr.opd hx).clo_inv
 have e1:xs=#[]:=Array.eq_empty_of_size_eq_zero e1
 have e2:ys=#[]:=Array.eq_empty_of_size_eq_zero e2
 subst e1;subst e2
 obtain⟨B,hB,tmps,D,e0,_,hh,hsz,hrep⟩:=hr.lp hlp
 have hl1:(ags.toList.map a.eval).length=vs.length:=by simpa using h1
 obtain⟨s1,s2⟩:=QjW (φ:=φ) (I:=Xj C φ w) (w:=w) K.ps.toList (ags.toList.map a.eval) vs tmps cs hl1 hsz hrep (λj x v hx hv=>by
  simp only[Yb,XZ]at hx
  obtain⟨y,hy,rfl⟩:=hx
  exact h2 j y v hy hv)
 have hsize:(ags.map a.eval).size=K.ps.size:=by rw[<-hps,<-hl1];simp
 have hfold:(K.ps.zip (ags.map a.eval)).foldl (λtmps (t,a)=>tmps.setIfInBounds t a) tmps=(K.ps.toList.zip (ags.toList.map a.eval)).foldl (λtm p=>tm.setIfInBounds p.1 p.2) tmps:=by
  rw[<-Array.foldl_toList];simp
 have hex:(execOp a.eval o).run P w=.ok (.round l K.fn ((K.ps.toList.zip (ags.toList.map a.eval)).foldl (λtm p=>tm.setIfInBounds p.1 p.2) tmps).toList.toArray K.assign K.body) w:=by
  simp only[execOp,ho,resolve,Xf,hev,Deferred.ofValue,Xx,Xl,invoke,Array.empty_append]
  rw[run_yield hh hsize,hfold]
 rw[Oper.semAt_eq _ _ _ (by rw[ho];intro c hc;cases hc),hex,Oper.uponIn_round]
 refine⟨(λh=>by cases h),Qmf ((hc _ _ w _ (Ins.of_vals hr (by simpa using s1) (λj x v hx hv=>s2 j x v (by simpa using hx) hv) hN.injM hN.param hv hobs) ((hr.glob hpg).mono λ_ h=>.inl h)).mono ?_)⟩
 rintro e w' ⟨x,v,hs',φ',rfl,⟨rfl,hso⟩,hout⟩
 obtain⟨h3,h4⟩:=hr.after hN hout hso (λc s h=>by
  obtain⟨ob',e1⟩:=hobs.get.2 c s h
  obtain⟨s',ob,e2,e3,_⟩:=hobs.get.1 c ob' e1
  rw[h]at e2;cases e2;exact⟨ob,e3⟩) hback
 refine hnext _ _ ⟨Iz φ M N dead φ',?_⟩
 rw[hd]
 exact h3.put (XP hn) (h4 hr')
def Qmg (b l:Nat)(K:AR)(h:V->H_->Prop):Exit->St->Prop
 | .normal,σ=>∃y,look σ.hp b=some (.lp l K y 1)/\h (.b true) ((b,.lp l K y 0)::σ.hp)
 | .ret,σ=>∃y,look σ.hp b=some (.lp l K y 1)/\h (.b false) ((b,.lp l K y 2)::σ.hp)
 | .exit k,σ=>∃y,look σ.hp b=some (.lp l K y 1)/\h (.b false) ((b,.lp l K y (k+3))::σ.hp)
 | _,_=>False
def OU.walk {b l:Nat}{K:AR}{us:L_ V}{hs:H_}{post:V->H_->Prop}(n:Nat)(hn:us.length=n)(hle:Nat.ble n 617=true)
  (h:∀C:XA,Jq P C n->AK P C (λe σ=>e=.normal/\∃cs,look σ.hp b=some (.lp l K cs 0)/\AK P C (Qmg b l K post) (.c K.body) [] (σ.set b (.lp l K cs 1))) (.c K.assign) [] ⟨LH 0 us,hs⟩):OU P l K us hs post:=by
 intro S φ w vals hi hG
 let C:XA:=⟨w,S,λk=>∃o B,φ o=some B/\B.has k,n,φ,JK hle,some l⟩
 have hF:Fence.wide.inRound l=C.F:=rfl
 have hI:∀k,S k->Xj C φ w k/\w.heap[k]? = w.heap[k]? := λk hk=>⟨⟨hi.lt k hk,λ_=>hk,λo B hB e=>((hi.dom o B hB).2.1 k e).2 hk⟩,rfl⟩
 have hR:R C ⟨LH 0 us,hs⟩ { tmps:=vals,defers:=[] } w:=by
  refine⟨φ,rfl,rfl,rfl,YZ _,λ_ _ _=>rfl,hi.inj,λo B hB=>(hi.dom o B hB).2.2,λo B k hB hk=>⟨((hi.dom o B hB).2.1 k hk).1,λ_=>⟨o,B,hB,hk⟩⟩,λo B k hB hk hlt=>absurd (hi.dom o B hB).1 (by omega),⟨λ_ _ _ h=>h,λ_ _ _ _ _ h=>h⟩,
   by show vals.size=n;rw[hi.size,hn],⟨[],rfl,List.nodup_nil,λ_ h=>by cases h⟩,λt v hv=>?_,λo ob hob=>?_⟩
  ·obtain⟨_,h2⟩:=Qgn us 0 t v hv
   rw[Nat.sub_zero]at h2
   have hlt:t<vals.size:=by rw[hi.size];exact(Xe.1 h2).1
   exact⟨vals[t],GZ hlt,(hi.args t _ v (GZ hlt) h2).mono (λ_ _ h=>h) hI⟩
  rcases hi.heap o ob hob with⟨B,hB,hr⟩|hn
  ·exact .inl ⟨B,hB,hr.mono (λ_ _ h=>h) hI λ_ _=>rfl⟩
  exact .inr hn
 refine roundIn_of_wpIn trivial ?_
 rw[hF]
 refine wpIn_mono (h C ⟨rfl,hG,λg hg ⟨o,B,hB,hb⟩=>((hi.dom o B hB).2.1 g hb).2 (hG g hg).1⟩ _ _ hR) ?_
 rintro e a1 w1 ⟨σ1,⟨rfl,cs,hlp,hbody⟩,φ1,hr1⟩
 obtain⟨r,g1,g2,g3,g4⟩:=hr1.lpSet (q':=1) hlp
 refine⟨_,run_beginRound g1 g2,?_⟩
 have hbusy:({ r with state:=LoopState.busy }:Loop)={ r with state:=lst 1,pending:=VM 1 }:=by
  rw[show VM 1=r.pending from g3.symm];rfl
 rw[hbusy]
 refine wpIn_mono (hbody _ _ ⟨φ1,g4⟩) ?_
 rintro e a2 w2 ⟨σ2,hq,φ2,hr2⟩
 have fin:∀(y:O_ Code) (q:Nat) (D:L_ V),look σ2.hp b=some (.lp l K D 1)->VM q=y->(if y.isNone then LoopState.ready else LoopState.done)=lst q->post (.b y.isNone) ((b,.lp l K D q)::σ2.hp)->
   ∃v w',(Instr.endRound l y).run P w2=.ok v w'/\∃x v' hs' φ',Ending.returned v=.returned x/\post v' hs'/\Outs S φ w φ' w' x v' hs':=λy q D hl2 hj hst hp=>by
  obtain⟨r2,k1,_,_,k4⟩:=hr2.lpSet (q':=q) hl2
  refine⟨_,_,run_endRound y k1,.bool y.isNone,.b y.isNone,_,φ2,rfl,hp,?_⟩
  rw[hst,<-hj]
  exact⟨k4.os,k4.tape,k4.output,k4.size,λk hk hne=>k4.kept k hk (λ⟨o,B,hB,e⟩=>hne o B hB e),k4.inj,k4.dom,
   λo B k hB hk=>⟨(k4.lt o B k hB hk).1,λhlt=>(k4.lt o B k hB hk).2 hlt⟩,k4.new,k4.stay,.dat (.b _),k4.heap⟩
 cases e with
 | normal=>obtain⟨D,hl2,hp⟩:=hq;exact fin none 0 D hl2 rfl rfl hp
 | ret=>obtain⟨D,hl2,hp⟩:=hq;exact fin (some .ret) 2 D hl2 rfl rfl hp
 | exit k=>obtain⟨D,hl2,hp⟩:=hq;exact fin (some (.exit k)) (k+3) D hl2 rfl rfl hp
 | _=>exact hq.elim
def RR.mark (h:RR C φ σ a w):RR C φ σ { a with defers:={ target:=.collected w.heap.size,args:=#[] }::a.defers } (w.alloc (.deferred (some []))):=by
 have y:=h.step (w':=w.alloc (.deferred (some []))) rfl rfl rfl (by simp) (λk hk=>Below.heap_alloc w _ k hk)
 refine⟨y.os,y.tape,y.output,y.size,y.kept,y.inj,y.dom,y.lt,y.new,y.stay,y.tmps,?_,y.frame,y.heap⟩
 obtain⟨Ds,h1,h2,h3⟩:=y.defers
 obtain⟨Ds',h1',h2',h3'⟩:=h.defers
 refine⟨w.heap.size::Ds',by simp[h1'],Ft.2 ⟨λhm=>absurd (h3' _ hm).2.1.1 (by omega),h2'⟩,λD hD=>?_⟩
 rcases XQ.1 hD with rfl | hD
 ·refine⟨h.size,⟨by simp,λhlt=>absurd h.size (by omega),λo B hB hh=>absurd (h.lt o B _ hB hh).1 (by omega)⟩,World.alloc_heap_new w _⟩
 obtain⟨a1,a2,a3⟩:=h3' D hD
 exact⟨a1,⟨by have:=a2.1;simp;omega,a2.2⟩,(Below.heap_alloc w _ D a2.1).trans a3⟩
def RR.killTo (h:RR C φ σ a w){b:Nat}{B:Xa}(y:φ b=some B){w':World}(ho:w'.os=w.os)(ht:w'.tape=w.tape)(hu:w'.output=w.output)(hs:w'.heap.size=w.heap.size)(hk:∀k,k≠B.b->w'.heap[k]? = w.heap[k]?):RR C (EP φ b) (σ.kill b) a w':=by
 have hI:∀k,Xj C φ w k->Xj C (EP φ b) w' k/\w'.heap[k]? = w.heap[k]? := λk D=>⟨⟨by rw[hs];exact D.1,D.2.1,λo B' hB'=>D.2.2 o B' (Kn hB').2⟩,hk k λe=>D.2.2 b B y (.inl e)⟩
 have hφ:∀o B,o≠b->φ o=some B->EP φ b o=some B:=λo B ho y=>by rw[Dy ho];exact y
 refine⟨ho.trans h.os,ht.trans h.tape,hu.trans h.output,by rw[hs];exact h.size,λk h1 h2=>(hk k λe=>h2 ((h.lt b B k y (.inl e)).2 h1)).trans (h.kept k h1 h2),λo o' B B' k h1 h2=>h.inj o o' B B' k (Kn h1).2 (Kn h2).2,?_,λo B k y=>by rw[hs];exact h.lt o B k (Kn y).2,λo B k y=>h.new o B k (Kn y).2,
  ⟨λo B h1 y=>h.stay.1 o B h1 (Kn y).2,λo ob B h1 ho y=>by obtain⟨hne,ob',h2,_⟩:=KO _ _ _ ho;rw[Dy hne];exact h.stay.2 o ob' B h1 h2 y⟩,h.tmps,h.defers.mono hI,?_,?_⟩
 ·intro o B y
  obtain⟨h1,h2⟩:=Kn y
  obtain⟨ob,hob⟩:=h.dom o B h2
  exact⟨_,Uf _ _ _ h1 hob⟩
 ·intro t v hv
  obtain⟨v',hv',rfl⟩:=OF _ _ _ hv
  obtain⟨x,hx,hr⟩:=h.frame t v' hv'
  exact⟨x,hx,hr.kill hφ hI⟩
 intro o ob hob
 obtain⟨hne,ob',hob',rfl⟩:=KO _ _ _ hob
 rcases h.heap o ob' hob' with⟨B',hB',hr⟩|⟨h1,hz⟩
 ·exact .inl ⟨B',hφ o B' hne hB',hr.kill hφ hI λk D=>hk k λe=>hne (h.inj o b B' B k hB' y D (.inl e))⟩
 exact .inr ⟨by rw[Dy hne];exact h1,hz.kill⟩
def snap (h:L_ Nat)(fr:S_)(n:Nat):L_ V:=(List.range n).map λt=>bif XJ h t then(match look fr t with
 | some v=>v
 | none=>.J)else .J
def RR.snap {ts:L_ Nat}(h:RR C φ σ a w):∀(j:Nat) x v,a.tmps[j]? = some x->(snap ts σ.fr C.n)[j]? = some v->QO φ (Xj C φ w) w x v:=by
 intro j x v hx D
 simp only[Vm.snap,Yb,XZ]at D
 obtain⟨t,ht,rfl⟩:=D
 obtain⟨_,rfl⟩:=Xe.1 ht
 simp only[Qck]at *
 cases hm:XJ ts j with
 | false=>exact .dat (.J _)
 | true=>
 simp only[XK]
 split
 ·rename_i v D
  obtain⟨y,hy,hr⟩:=h.frame _ _ D
  rw[hx]at hy;cases hy;exact hr
 exact .dat (.J _)
def rgV (P:Program)(σ:St)(f:Nat)(vs:L_ V)(M N:L_ (Nat×Nat))(dead:L_ Nat)(ms:L_ Mode)(outs:H_)(r:V):O_ (St×Prop):=
 bif DK σ M N dead outs&&Bc (M.map Prod.fst)&&Bc (N.map Prod.fst)then match MA (Gd M) ms vs with
  | some us=>match CY (Gd M) (look σ.hp) M with
   | some h=>match CY (Gd N) (look outs) N with
    | some y=>some (σ.after dead y,QX P f us h (Gives r outs))
    | none=>none
   | none=>none
  | none=>none
 else none
def atJ (p:Prop)(f:Code->Prop):O_ Code->Prop
 | none=>p
 | some c=>f c
end
section
variable {P:Program}{C:XA}{φ:Nat->O_ Xa}{σ:St}{a:Act}{w:World}{o:Oper}
def Qbu (P:Program)(T:TypeId)(i:Nat):O_ (Nat×Bool×Nat):=match P.underlying T with
 | some (.struct fs)=>match fs[i]? with
  | some f=>match Ea P f.type with
   | some g=>match UC P f.type with
    | some n=>some (f.offset,g,n)
    | none=>none
   | none=>none
  | none=>none
 | _=>none
def Qje {T i off n:Nat}{g:Bool}(h:Qbu P T i=some (off,g,n)):∃(fs:Array Field) (f:Field),P.underlying T=some (.struct fs)/\fs[i]? = some f/\f.offset=off/\Ea P f.type=some g/\UC P f.type=some n:=by
 unfold Qbu at h
 split at h
 ·rename_i fs hu
  split at h
  ·rename_i f y
   split at h
   ·rename_i g' D
    split at h
    ·rename_i n' hn;cases h;exact⟨fs,f,hu,y,rfl,D,hn⟩
    cases h
   cases h
  cases h
 cases h
def Qf.field {T i d off n:Nat}{g:Bool}{x:Operand}{cs:L_ V}{v:V}(ho:o.op=.field T x i)(hd:o.dst=some d)(hn:B_ d C)(hx:σ.opd x=some (.agg cs))(hT:Qbu P T i=some (off,g,n))
  (h:(bif g then some (.agg ((cs.drop off).take n))else cs[off]?)=some v):Qf P C o σ (σ.put d v):=by
 refine Qf.same hd hn λφ a w hr=>?_
 obtain⟨fs,f,hu,hf,rfl,hg,hsz⟩:=Qje hT
 obtain⟨xs,he,hs,hc⟩:=(hr.opd hx).agg_inv
 cases g with
 | true=>
  cases h
  refine⟨.agg (xs.extract f.offset (f.offset+n)),?_,.agg _ _ (by simp;omega) λj x v D h=>?_⟩
  ·simp only[execOp,ho,he,Instr.field,Xf,run_underlying hu,Xl,hf,part,asAgg,Xx,Te hg,if_true,ZE hsz]
  rw[Array.getElem?_extract]at D
  split at D
  ·rw[Jy]at h
   split at h
   ·rw[Gf]at h;exact hc _ x v D h
   cases h
  cases D
 | false=>
  simp only[QJ]at h
  have y:f.offset<xs.size:=by rw[hs];exact(Xe.1 h).1
  refine⟨xs[f.offset],?_,hc _ _ v (GZ y) h⟩
  simp[execOp,ho,he,Instr.field,Xf,run_underlying hu,hf,part,asAgg,Te hg,y]
def QjX : ∀(ms:L_ (O_ Nat)) (h:L_ V),(Dg ms h).length=h.length:=by
 intro ms
 induction ms with
 | nil=>intro h;cases h<;>rfl
 | cons m ms y=>intro h;cases h with
  | nil=>rfl
  | cons c h=>simp[Dg,y]
def Xy.den1 {I:Nat->Prop}{w:World}{x:Value}{v:V}{m:O_ Nat}(h:Xy I w x v):Xy I w x (Vm.den1 m v):=by
 unfold Vm.den1
 split
 ·cases h;exact .sl0 _ _ _
 exact h
def QkX {m:O_ Nat}{v:V}(h:v.one=true):(Vm.den1 m v).one=true:=by
 unfold Vm.den1
 split
 ·rfl
 exact h
def R.denilA {b z:Nat}{rs:L_ (L_ V)}{ms:L_ (O_ Nat)}(hb:look σ.hp b=some (.arr z rs))(h:R C σ a w):R C (σ.set b (.arr z (rs.map (Dg ms)))) a w:=by
 obtain⟨φ,y⟩:=h
 have D:∀(ms:L_ (O_ Nat)) (r:L_ V),(∀v∈r,v.one=true)->∀v∈Dg ms r,v.one=true:=by
  intro ms
  induction ms with
  | nil=>intro r y;cases r<;>exact y
  | cons m ms ih=>intro r y;cases r with
   | nil=>exact y
   | cons c r=>
    intro v hv
    rcases XQ.1 hv with rfl | hv
    ·exact QkX (y c YF)
    exact ih r (λv hv=>y v (Jz _ hv)) v hv
 by_cases hne:rs=[]
 ·subst hne
  exact⟨φ,y.sayOb (ob':=.arr z []) hb (λ_ _ h=>h) (.inl rfl)⟩
 refine⟨φ,y.sayOb hb (λB hB hrep=>?_) (.inr λe=>hne e)⟩
 obtain⟨h1,h2,h3,cs,E,h4,h5,h6⟩:=hrep
 refine⟨h1,by simpa using h2,λr hr'=>?_,cs,E,h4,h5,λi r hi j v hj=>?_⟩
 ·obtain⟨r0,hr0,rfl⟩:=Yl.1 hr'
  exact⟨by rw[QjX];exact(h3 r0 hr0).1,D _ _ (h3 r0 hr0).2⟩
 rw[Yb]at hi
 obtain⟨r0,hi0,rfl⟩:=XZ.1 hi
 obtain⟨m,v',hv',rfl⟩:=Rz _ _ j v hj
 obtain⟨x,hx,hD⟩:=h6 i r0 hi0 j v' hv'
 exact⟨x,hx,hD.den1⟩
def AK.denilA {Q:Exit->St->Prop}{pt:Pt}{ks:L_ Fr}{b z:Nat}{rs us:L_ (L_ V)}(ms:L_ (O_ Nat))(y:look σ.hp b=some (.arr z rs))(D:rs.map (Dg ms)=us)(k:AK P C Q pt ks (σ.set b (.arr z us))):AK P C Q pt ks σ:=by
 subst D
 exact AK.weaken (λa w h=>R.denilA y h) k
def QhF {α:Type}{f:α->L_ V}{n:Nat}{x:α}{r:L_ V}{ms:L_ (O_ Nat)}(h:Dg ms r=f x):(List.replicate n r).map (Dg ms)=(List.replicate n x).map f:=by simp[h]
end
def Qmh {p:Prop}{f:Code->Prop}{q:Nat}(h:(q==0)=true)(k:p):atJ p f (VM q):=by rw[eq_of_beq h];exact k
def Qnk {p:Prop}{f:Code->Prop}{q:Nat}(h:(q==2)=true)(k:f .ret):atJ p f (VM q):=by rw[eq_of_beq h];exact k
def rfs : Code->L_ (Array Tmp×Code×Code)
 | .seq x y=>rfs x++rfs y
 | .cond _ x y=>rfs x++rfs y
 | .block _ x=>rfs x
 | .loop x=>rfs x
 | .rangeFunc _ h a b=>[(h,a,b)]
 | _=>[]
def Qmi (f:Func)(k fn:Nat):AR:=match f.body with
 | some c=>match (rfs c)[k]? with
  | some (h,a,b)=>⟨fn,h,a,b⟩
  | none=>⟨fn,#[],.skip,.skip⟩
 | none=>⟨fn,#[],.skip,.skip⟩
def yV (P:Program)(σ:St)(l d:Nat)(K:AR)(vs:L_ V)(M N:L_ (Nat×Nat))(dead:L_ Nat)(ms:L_ Mode)(outs:H_)(r:V):O_ (St×Prop):=
 bif DK σ M N dead outs&&Bc (M.map Prod.fst)&&Bc (N.map Prod.fst)then match MA (Gd M) ms vs with
  | some us=>match CY (Gd M) (look σ.hp) M with
   | some h=>match CY (Gd N) (look outs) N with
    | some y=>match trV (Gd N) r with
     | some D=>some ((σ.after dead y).put d D,OU P l K us h (Gives r outs))
     | none=>none
    | none=>none
   | none=>none
  | none=>none
 else none
section
variable {P:Program}{C:XA}{σ σ':St}{o:Oper}
def Qf.yieldV {d b l:Nat}{K:AR}{cs:L_ V}{q:Nat}{x:Operand}{y:Array Operand}{ts:Array TypeId}{M N:L_ (Nat×Nat)}{dead:L_ Nat}{outs:H_}{vs us:L_ V}{ms:L_ Mode}{r:V}{φ:Prop}(ho:o.op=.call { callee:=.value x,args:=y,argTypes:=ts })
  (hx:σ.opd x=some (.clo (.yield l) [] [])) (hlp:look σ.hp b=some (.lp l K cs q)) (hq:q=0) (ha:σ.opsV y.toList=some vs) (hps:vs.length=K.ps.size) (hd:o.dst=some d) (hn:B_ d C) (hpg:C.pg P)
  (hu:Qew cs K.ps.toList vs=us) (e:yV P σ l d K us M N dead ms outs r=some (σ',φ)) (hφ:φ):Qf P C o σ σ':=by
 unfold yV at e
 replace e:=XV e;obtain⟨e1,e⟩:=e
 simp only[QL]at e1
 obtain⟨⟨h1,h2⟩,h3⟩:=e1
 have h2:=Dh.1 h2
 have h3:=Dh.1 h3
 have D:FY M=true/\FY N=true:=by
  simp only[DK,QL]at h1
  exact⟨h1.1.1.1,h1.1.1.2⟩
 have mM:∀a b,Gd M a=some b->look M b=some a:=λa b h=>KE D.1 (CP h) h2
 have mN:∀a b,Gd N a=some b->look N b=some a:=λa b h=>KE D.2 (CP h) h3
 split at e
 ·rename_i us hus
  split at e
  ·rename_i hsC hC
   split at e
   ·rename_i hsN hN
    split at e
    ·rename_i r' hr
     cases e
     subst hu
     exact Qf.yield ho hx hlp hq ha hps hd hn hpg h1 h2 (IP mM hus) (Gh mM hC) hφ (Gh mN hN) (Md mN hr)
    cases e
   cases e
  cases e
 cases e
end
section
variable {P:Program}{C:XA}{φ:Nat->O_ Xa}{σ:St}{a:Act}{w:World}{o:Oper}
def QaC {zc:Array Value}{z m i:Nat}(y:zc.size=z)(D:0<z)(h:i<m*z):(Builtin.zeroCells zc m).toList[i]? = zc[i % z]? := by
 have h2:i % z<zc.size:=by rw[y];exact Nat.mod_lt _ D
 simp only[Builtin.zeroCells,y,Array.toList_map,Array.toList_range,Yb,List.getElem?_range h,DJ,Array.getElem!_eq_getD,TV,GZ h2,OR]
def RR.clearTail {b n l z e:Nat}{rs:L_ (L_ V)}{zs:L_ V}{zv:Value}{B:Xa}(hr:RR C φ σ a w)(hb:look σ.hp b=some (.arr z rs))(hrn:rs.length=n)(hB:φ b=some B)(hzs:zv.cells.toList.map UZ=zs)(hzl:zs.length=z)(h0:0<z)(hzo:zs.all V.one=true)
  (hln:l<=n):∃w',(storeCells ⟨B.b,B.off+l*z,none⟩ (Builtin.zeroCells zv.cells (n-l)).toList).run P w=.ok () w'/\RR C φ (σ.set b (.arr z (rs.take l++List.replicate (n-l) zs))) a w':=by
 obtain⟨hz,hrl,hok,xs,E,e1,e2,e3⟩:=hr.block hB hb
 subst hz
 have hcs:zv.cells.size=B.z:=by rw[<-hzl,<-hzs];simp
 rw[XE]at hzo
 have D:(Builtin.zeroCells zv.cells (n-l)).toList.length=(n-l)*B.z:=by simp[Builtin.zeroCells,hcs]
 have hmul:l*B.z+(n-l)*B.z=n*B.z:=by rw[<-Jf];congr 1;omega
 have hnc:n*B.z<=B.cap*B.z:=JA _ (by omega)
 have hone:∀v∈(Builtin.zeroCells zv.cells (n-l)).toList,v.oneCell'=true:=by
  intro v hv
  obtain⟨i,hi⟩:=Mv.1 hv
  have hil:i<(n-l)*B.z:=by rw[<-D];exact(Xe.1 hi).1
  rw[QaC hcs h0 hil]at hi
  have hm:(UZ v)∈zs:=by rw[<-hzs];exact List.mem_map_of_mem (Qdl.2 (Array.mem_of_getElem? hi))
  exact((QO.dat (φ:=φ) (I:=λ_=>True) (w:=w) (Xy.const v)).oneCell (hzo _ hm)).2
 generalize hZ:(Builtin.zeroCells zv.cells (n-l)).toList=Z at D hone
 have hrun:=run_storeCells_at P B.b (B.off+l*B.z) E Z 0 xs w e1 (by rw[D];omega) hone
 simp only[OD]at hrun
 refine⟨_,hrun,?_⟩
 have hl1:(xs.toList.take (B.off+l*B.z)++Z++xs.toList.drop (B.off+l*B.z+Z.length)).length=xs.size:=by simp[D];omega
 refine hr.write hB rfl rfl rfl (by simp) (λk hk=>setRow_other w B.b k _ hk) ⟨rfl,by simp;omega,?_,_,E,setRow_heap w B.b xs _ E _ e1,?_,?_⟩
 ·intro r' hr'
  rcases Ep.1 hr' with h | h
  ·exact hok r' (Ai h)
  rw[Zx h];exact⟨hzl,hzo⟩
 ·simp only[Ta,hl1];exact e2
 have hI:∀k,Xj C φ w k->Xj C φ (w.setRow B.b (xs.toList.take (B.off+l*B.z)++Z++xs.toList.drop (B.off+l*B.z+Z.length)).toArray) k/\
   (w.setRow B.b (xs.toList.take (B.off+l*B.z)++Z++xs.toList.drop (B.off+l*B.z+Z.length)).toArray).heap[k]? = w.heap[k]?:=
  λk hk=>⟨⟨by simpa using hk.1,hk.2⟩,setRow_other w B.b k _ λe=>hk.2.2 b B hB (.inl e)⟩
 intro i r hi j v hj
 by_cases hil:i<l
 ·rw[YL (by simp;omega),Jy,if_pos hil]at hi
  obtain⟨y,hy,hD⟩:=e3 i r hi j v hj
  have hjz:j<B.z:=by rw[<-(hok r (XU hi)).1];exact(Xe.1 hj).1
  have hlt:i*B.z+j<l*B.z:=by
   have:(i+1)*B.z<=l*B.z:=JA _ hil
   rw[Jf]at this;omega
  refine⟨y,?_,hD.mono hI⟩
  have hyl:=(Ud.1 hy).1
  rw[UA,De,YL (by simp;omega),Jy,if_pos (by omega)];simpa using hy
 rw[Jx (by simp;omega)]at hi
 simp only[KS,hrn,ZC hln]at hi
 rw[List.getElem?_replicate]at hi
 split at hi
 ·rename_i hin
  cases hi
  have hjz:j<B.z:=by rw[<-hzl];exact(Xe.1 hj).1
  rw[<-hzs,Yb]at hj
  obtain⟨y,hy,rfl⟩:=XZ.1 hj
  refine⟨y,?_,Xy.const y⟩
  have hidx:(i-l)*B.z+j<(n-l)*B.z:=by
   have:(i-l+1)*B.z<=(n-l)*B.z:=JA _ hin
   rw[Jf]at this;omega
  have hsum:i*B.z=l*B.z+(i-l)*B.z:=by rw[<-Jf];congr 1;omega
  rw[UA,De,Jx (by simp;omega),YL (by simp[D];omega)]
  have:B.off+(i*B.z+j)-(xs.toList.take (B.off+l*B.z)).length=(i-l)*B.z+j:=by simp;omega
  rw[this,<-hZ,QaC hcs h0 hidx]
  have hm:((i-l)*B.z+j) % B.z=j:=by rw[Nat.add_comm,Nat.add_mul_mod_self_right,Nat.mod_eq_of_lt hjz]
  rw[hm];simpa using hy
 cases hi
def AK.clearTail {Q:Exit->St->Prop}{ks:L_ Fr}{ops:Array Oper}{rest:L_ Oper}{o1 o2:Oper}{T d b n l z e by_:Nat}{x lo:Operand}{rs us:L_ (L_ V)}{zs:L_ V}(hg1:o1.guard=none)(hg2:o2.guard=none)
  (ho1:o1.op=.slice T x (some lo) none none) (hd1:o1.dst=some d) (ho2:o2.op=.call { callee:=.builtin .clear,args:=#[.tmp d],argTypes:=#[T] }) (hd2:o2.dst=none) (hn:B_ d C)
  (hx:σ.opd x=some (.own b n)) (hb:look σ.hp b=some (.arr z rs)) (hrn:rs.length=n) (hT:Yo P T=some (e,z,by_)) (hz:XX P e=some zs) (hzl:zs.length=z) (h0:Nat.ble 1 z=true) (hzo:zs.all V.one=true) (hl:Cv σ 0 (some lo) l) (hln:l<=n)
  (hu:rs.take l++List.replicate (n-l) zs=us) (k:AK P C Q (.o ops rest) ks ((σ.set b (.arr z us)).put d .J)):AK P C Q (.o ops (o1::o2::rest)) ks σ:=by
 intro a w ⟨φ,hr⟩
 subst hu
 have h0:=JK h0
 obtain⟨hu,i,D,hiz,_⟩:=KT hT
 obtain⟨i',zv,hi2,hz',hzs⟩:=BS hz
 have key:∃x1 w',(execOp a.eval o1).run P w=.ok (.value x1) w/\(Builtin.clear_ #[T] o2.type #[x1]).run P w=.ok (.tuple #[]) w'/\RR C φ (σ.set b (.arr z (rs.take l++List.replicate (n-l) zs))) a w':=by
  rcases(hr.opd hx).own_inv with⟨he,rfl⟩|⟨B,hB,hcap,he⟩
  ·have l0:l=0:=by omega
   subst l0
   have:rs=[]:=Mu.1 hrn
   subst this
   refine⟨.slice none 0 0,w,?_,?_,hr.sayOb (ob':=.arr z []) hb (λ_ _ h=>h) (.inl rfl)⟩
   ·have y:=HJ (P:=P) (b:=true) hr hl (.no (dflt:=0)) (by omega) (by omega:0<=0)
    simp only[DJ,Rq]at y
    simp[execOp,ho1,he,Instr.sliceAt,Instr.slice,run_underlying hu,y,sizeOf,typeInfo,D]
   simp[Builtin.clear_,run_underlying hu]
  have y:=HJ (P:=P) (b:=true) hr hl (.no (dflt:=n)) hln (by omega:n<=B.cap)
  simp only[DJ,Rq]at y
  by_cases hcl:B.cap=l
  ·have hln2:n-l=0:=by omega
   refine⟨.slice (some ⟨B.b,B.off,none⟩) 0 0,w,?_,?_,?_⟩
   ·simp only[execOp,ho1,he,Instr.sliceAt,Instr.slice,run_underlying hu,y,sizeOf,typeInfo,D,Xf,Xx,run_program,Xl,DJ,Rq]
    simp[hcl];omega
   ·simp[Builtin.clear_,run_underlying hu]
   rw[hln2,List.replicate_zero,Lm,UB (by omega)]
   exact hr.sayOb hb (λ_ _ h=>h) (.inl rfl)
  obtain⟨w',hw,hr'⟩:=hr.clearTail (P:=P) (l:=l) (e:=e) hb hrn hB hzs hzl h0 hzo hln
  refine⟨.slice (some ⟨B.b,B.off+l*z,none⟩) (n-l) (B.cap-l),?_⟩
  have hex:(execOp a.eval o1).run P w=.ok (.value (.slice (some ⟨B.b,B.off+l*z,none⟩) (n-l) (B.cap-l))) w:=by
   simp only[execOp,ho1,he,Instr.sliceAt,Instr.slice,run_underlying hu,y,sizeOf,typeInfo,D,Xf,Xx,run_program,Xl,DJ,Rq,if_neg hcl,hiz,Addr.add_lit]
  by_cases hnl:n-l=0
  ·refine⟨w,hex,?_,?_⟩
   ·rw[hnl];simp[Builtin.clear_,run_underlying hu]
   rw[hnl,List.replicate_zero,Lm,UB (by omega)]
   exact hr.sayOb hb (λ_ _ h=>h) (.inl rfl)
  refine⟨w',hex,?_,hr'⟩
  obtain⟨m,hm⟩:∃m,n-l=m+1:=⟨n-l-1,by omega⟩
  rw[hm]at hw ⊢
  rw[hi2]at D;cases D
  simp only[Builtin.clear_,Xf,run_underlying hu,Xl,Xx,zeroValue,typeInfo,run_program,hi2,hz',UA,List.getElem?_cons_zero]
  simp[hw,hz']
 obtain⟨x1,w',hex,hcl,hr'⟩:=key
 have hput:∀t,(a.put (some d) x1).tmps[t]? = if t=d then(if d<a.tmps.size then some x1 else none)else a.tmps[t]? := λt=>by
  simp only[Act.put,TW]
  by_cases e:d=t
  ·subst e;simp
  simp[e,Ne.symm e]
 have hev:(a.put (some d) x1).eval (.tmp d)=x1:=by
  have hlt:d<a.tmps.size:=by rw[hr.tmps];exact XP hn
  simp[Act.eval,Act.put,TV,TW,hlt]
 have hex2:(execOp (a.put (some d) x1).eval o2).run P w=.ok (.value (.tuple #[])) w':=by
  simp only[execOp,ho2,resolve,invoke,builtin,Xf,Xx,Xl,List.map_toArray,GK,List.map_nil,hev,hcl]
 show wpListIn C.F 0 P ops (up C (unw P C Q ks)) (o1::o2::rest) a w
 simp only[wpListIn,Region.wanted,hg1,if_true]
 refine⟨λ_ _=>trivial,?_⟩
 rw[Qbd hex,Oper.uponIn_value,hd1]
 simp only[wpListIn,Region.wanted,hg2,if_true]
 refine⟨λ_ _=>trivial,?_⟩
 rw[Qbd hex2,Oper.uponIn_value,hd2]
 exact k _ _ ⟨φ,hr'.put (XP hn) (.dat (.J x1))⟩
def Qmj {α:Type}{f:α->L_ V}{e:L_ α}{l k:Nat}{zs:L_ V}{x:α}{ms:L_ (O_ Nat)}(h:∀y,Dg ms (f y)=f y)(D:Dg ms zs=f x):((e.map f).take l++List.replicate k zs).map (Dg ms)=(e.take l++List.replicate k x).map f:=by
 have h3:Dg ms∘f=f:=funext h
 simp[List.map_take,D,h3]
def QjY {α:Type}{b l:Nat}{e:L_ α}{x:α}(h:l<=e.length):V.own b e.length=V.own b (e.take l++List.replicate (e.length-l) x).length:=by
 congr 1;simp;omega
end
end Go.Vm
namespace Go.Vm
open Go Go.RowKit Go.Proofs Go.Sort Go.Shelf
def HN (l:L_ Int):L_ Int:=l.mergeSort λx y=>decide (x<=y)
def Vg (x:Int):L_ V:=[V.i .i64 x]
def Qgu (l:L_ Int):(HN l).length=l.length:=List.length_mergeSort ..
def Qin {P:Program}{ρ:Ren}(Ly:Lays.n189 P ρ)(zs:L_ Int)(hz:zs.length<4611686018427387904):
  QX P (ρ.f 189) [.own 617 zs.length] [(617,.arr 1 (zs.map Vg))] (Gives (.tup []) [(617,.arr 1 ((HN zs).map Vg))]):=by
 intro S φ w vals hi _
 have hs:=hi.size
 obtain⟨v0,hv0⟩:∃v0,vals=#[v0]:=by
  obtain⟨l⟩:=vals
  match l,hs with
  | [x],_=>exact⟨x,rfl⟩
 subst hv0
 have ha:=hi.args 0 v0 _ rfl rfl
 rcases ha.own_inv with⟨hx,hn⟩|⟨B,hB,hn,hx⟩
 ·have h0:zs=[]:=Qg9 hn
  subst h0;subst hx
  refine(Any.slices_Sort_int_none Ly none 0 w).mono ?_
  rintro e w' ⟨rfl,rfl⟩
  refine⟨.tuple #[],.tup [],[(617,.arr 1 [])],φ,rfl,⟨rfl,λc ob h=>by simpa[HN] using h⟩,rfl,rfl,rfl,YZ _,λ_ _ _=>rfl,hi.inj,λo B h=>?_,λo B k h D=>?_,λo B k h D hlt=>?_,⟨λo B _ h=>h,λo ob B _ _ h=>h⟩,.dat (.tup _ _ rfl λj x v h=>by simp at h),λo ob h=>?_⟩
  ·obtain⟨_,_,ob,hob⟩:=hi.dom o B h;exact⟨ob,hob⟩
  ·obtain⟨_,h2,_⟩:=hi.dom o B h
   exact⟨(h2 k D).1,λ_=>⟨o,B,h,D⟩⟩
  ·obtain⟨h1,_,_⟩:=hi.dom o B h;omega
  have hS:∀k,S k->RC S φ w' w' k/\w'.heap[k]? = w'.heap[k]? := λk D=>⟨⟨hi.lt k D,λ_=>D,λo B h hb=>((hi.dom o B h).2.1 k hb).2 D⟩,rfl⟩
  rcases hi.heap o ob h with⟨B,hB,hr⟩|hn
  ·exact .inl ⟨B,hB,hr.mono (λ_ _ h=>h) hS λ_ _=>rfl⟩
  exact .inr hn
 subst hx
 have hob:JL φ S w B (.arr 1 (zs.map Vg)):=by
  rcases hi.heap 617 _ (QC _ _ _)with⟨B',hB',hr⟩|⟨hn',_⟩
  ·rw[hB]at hB';cases hB';exact hr
  rw[hB]at hn';cases hn'
 obtain⟨hz1,hle,hok,cs,E,hb,hsz,hcell⟩:=hob
 have hlt:B.b<w.heap.size:=((hi.dom _ _ hB).2.1 _ B.self).1
 have hrow:∀(l:L_ Int) (i:Nat) (x:Int),l[i]? = some x->(l.map Vg)[i]? = some (Vg x):=λl i x h=>by rw[Yb,h];rfl
 have hc:∀(i:Nat) x,zs[i]? = some x->cs[B.off+i]? = some (.int .i64 x):=λi x h=>by
  obtain⟨y,hy,hd⟩:=hcell i _ (hrow _ i x h) 0 (.i .i64 x) rfl
  rw[show i*1+0=i by omega]at hy
  rw[hy];cases hd;rfl
 have hH:Holds (Value.int .i64) w B.b B.off zs.toArray:=λj hj=>by
  have hj':j<zs.length:=by simpa using hj
  have h1:=hc j zs[j] (QR hj')
  have h2:zs.toArray[j]! = zs[j]:=by simp[hj']
  refine⟨?_,?_⟩
  ·rw[h2];simp[World.cell?,hb,h1]
  simp[World.frozen?,hb]
 refine(Any.slices_Sort_int Ly B.b B.off B.cap zs w hH hlt hz).mono ?_
 rintro e w' ⟨rfl,n,os,rfl⟩
 have hh:∀k,k<w.heap.size->(grow (putRow (Value.int .i64) (Sort.ahead w n) B.b B.off (HN zs).toArray) os).heap[k]? = (w.heap.modify B.b (onCells (putCells (Value.int .i64) B.off (HN zs).toArray)))[k]? := λk D=>by
  rw[heap_grow_old _ _ (by rw[size_putRow];exact D)];rfl
 have ho:∀k,k<w.heap.size->k≠B.b->(grow (putRow (Value.int .i64) (Sort.ahead w n) B.b B.off (HN zs).toArray) os).heap[k]? = w.heap[k]? := λk D hne=>by
  rw[hh k D,Array.getElem?_modify,if_neg (Ne.symm hne)]
 have hsize:w.heap.size<=(grow (putRow (Value.int .i64) (Sort.ahead w n) B.b B.off (HN zs).toArray) os).heap.size:=by
  rw[size_grow,size_putRow];exact Nat.le_add_right _ _
 have hme:(grow (putRow (Value.int .i64) (Sort.ahead w n) B.b B.off (HN zs).toArray) os).heap[B.b]? = some (.cells (putCells (Value.int .i64) B.off (HN zs).toArray cs) E (0,0)):=by
  rw[hh _ hlt,Array.getElem?_modify,if_pos rfl,hb];rfl
 have hall:∀o' B',φ o'=some B'->o'=617:=λo' B' h'=>by
  obtain⟨_,_,ob,hob⟩:=hi.dom o' B' h'
  by_cases e:617=o'
  ·exact e.symm
  rw[QA _ _ e]at hob;cases hob
 refine⟨.tuple #[],.tup [],[(617,.arr 1 ((HN zs).map Vg))],φ,rfl,⟨rfl,λc ob h=>h⟩,rfl,rfl,rfl,hsize,λk D hno=>?_,hi.inj,λo B h=>?_,λo B k h D=>?_,λo B k h D hl=>?_,⟨λo B _ h=>h,λo ob B _ _ h=>h⟩,.dat (.tup _ _ rfl λj x v h=>by simp at h),λo ob h=>?_⟩
 ·exact ho k D λe=>hno 617 B hB (e▸B.self)
 ·rw[hall o B h];exact⟨_,QC _ _ _⟩
 ·obtain⟨_,h2,_⟩:=hi.dom o B h
  exact⟨Aj (h2 k D).1 hsize,λ_=>⟨o,B,h,D⟩⟩
 ·obtain⟨h1,_,_⟩:=hi.dom o B h;omega
 by_cases e:617=o
 ·subst e
  rw[QC]at h;cases h
  refine .inl ⟨B,hB,hz1,?_,?_,_,E,hme,?_,?_⟩
  ·rw[BW,Qgu];rw[BW]at hle;exact hle
  ·intro r hr;obtain⟨x,_,rfl⟩:=Yl.1 hr
   exact⟨rfl,λv hv=>by simp[Vg]at hv;subst hv;rfl⟩
  ·simpa[putCells] using hsz
  intro i r hi' j v hj
  rw[Yb]at hi'
  obtain⟨x,hx,rfl⟩:=XZ.1 hi'
  have hil:i<(HN zs).length:=(Xe.1 hx).1
  have hil':i<zs.length:=by rw[Qgu]at hil;exact hil
  match j,hj with
  | 0,hj=>
   cases hj
   refine⟨.int .i64 x,?_,.i _ _⟩
   rw[show i*1+0=i by omega]
   have h1:=hc i zs[i] (QR hil')
   have h2:(HN zs).toArray[i]! = x:=by
    have:=Xe.1 hx
    obtain⟨h3,h4⟩:=this
    simp[h3,h4]
   simp only[putCells,Array.getElem?_mapIdx,h1,DJ]
   rw[if_pos ⟨by omega,by simp;omega⟩,show B.off+i-B.off=i by omega,h2]
  | j+1,hj=>simp[Vg]at hj
 rw[QA _ _ e]at h;cases h
def QfK (x:Int):L_ Int->L_ Int
 | []=>[x]
 | y::l=>bif decide (x<=y)then x::y::l else y::QfK x l
def Ex : L_ Int->L_ Int
 | []=>[]
 | x::l=>QfK x (Ex l)
def Qgv (x:Int)(l:L_ Int):(QfK x l).Perm (x::l):=by
 induction l with
 | nil=>exact .refl _
 | cons y l h=>
  rw[QfK]
  cases decide (x<=y)with
  | true=>exact .refl _
  | false=>exact(h.cons y).trans (.swap x y l)
def QlM {x:Int}{l:L_ Int}(h:l.Pairwise (·<=·)):(QfK x l).Pairwise (·<=·):=by
 induction l with
 | nil=>exact List.pairwise_singleton _ _
 | cons y l ih=>
  obtain⟨h1,h2⟩:=Fu.1 h
  rw[QfK]
  cases c:decide (x<=y)with
  | true=>
   have c:=XC c
   refine Fu.2 ⟨λz D=>?_,h⟩
   rcases XQ.1 D with rfl | D
   ·exact c
   have:=h1 z D;omega
  | false=>
   have c:=of_decide_eq_false c
   refine Fu.2 ⟨λz D=>?_,ih h2⟩
   rcases XQ.1 ((Qgv x l).mem_iff.1 D)with rfl | D
   ·omega
   exact h1 z D
def Qex (l:L_ Int):(Ex l).Perm l:=by
 induction l with
 | nil=>exact .refl _
 | cons x l h=>exact(Qgv x _).trans (h.cons x)
def Qio (l:L_ Int):(Ex l).Pairwise (·<=·):=by
 induction l with
 | nil=>exact List.Pairwise.nil
 | cons x l h=>exact QlM h
def ZZ (l:L_ Int):Ex l=l.mergeSort λx y=>decide (x<=y):=by
 refine List.Perm.eq_of_pairwise (le:=λx y:Int=>x<=y) (λa b _ _ D h2=>by omega) (Qio l) ?_ ((Qex l).trans (List.mergeSort_perm l _).symm)
 exact(List.pairwise_mergeSort (le:=λx y:Int=>decide (x<=y)) (λa b c D h2=>by simp at *;omega) (λa b=>by simp;omega) l).imp λh=>by simpa using h
def Tj (l:L_ Int):(Ex l).length=l.length:=(Qex l).length_eq
def Qip {P:Program}{ρ:Ren}(y:Lays.n189 P ρ)(zs:L_ Int)(D:zs.length<4611686018427387904):
  QX P (ρ.f 189) [.own 617 zs.length] [(617,.arr 1 (zs.map Vg))] (Gives (.tup []) [(617,.arr 1 ((Ex zs).map Vg))]):=by
 have h:=Qin y zs D
 rw[show HN zs=Ex zs from(ZZ zs).symm]at h
 exact h
def QhG (s:ByteArray):Bool:=decide (s.size<4294967281)&&s.data.toList.all λb=>decide (b.toNat<128)
def Ad (s:ByteArray):L_ ByteArray:=(Lib.fields s.data.toList).map λl=>⟨l.toArray⟩
def QgN {P:Program}{ρ:Ren}(Ly:Lays.n157 P ρ)(hi9:(P.info? (ρ.t 9)).map (fun i=>(i.zero,i.size,i.bytes))=some (some (.string ByteArray.empty),1,16))(hg:P.globalNamed "strings.asciiSpace" = some (ρ.g 0))(s:ByteArray)(hs:QhG s=true):
  QX P (ρ.f 157) [.s s] [] (Gives (.own 600 (Ad s).length) [(600,.arr 1 ((Ad s).map λx=>[V.s x]))]):=by
 intro S φ w vals hi hG
 have hsz:=hi.size
 obtain⟨v0,hv0⟩:∃v0,vals=#[v0]:=by
  obtain⟨l⟩:=vals
  match l,hsz with
  | [x],_=>exact⟨x,rfl⟩
 subst hv0
 have ha:=(hi.args 0 v0 _ rfl rfl).s_inv
 subst ha
 unfold QhG at hs
 rw[QL,decide_eq_true_iff,XE]at hs
 obtain⟨hs1,hs2⟩:=hs
 obtain⟨_,hl,hT⟩:=hG _ hg
 have hno:∀o B,φ o≠some B:=λo B h=>by obtain⟨_,_,ob,hob⟩:=hi.dom o B h;cases hob
 refine(Any.strings_Fields_core Ly hi9 s w hs1 (λj b hb=>by simpa using hs2 b (XU hb)) hT).mono ?_
 rintro e w' ⟨rfl,rfl⟩
 have hlen:(Lib.fields s.data.toList).length=(Ad s).length:=by unfold Ad;simp
 rw[hlen]
 generalize hO:Obj.cells ((Lib.fields s.data.toList).map λl=>Value.string ⟨l.toArray⟩).toArray (ρ.t 9)=O
 have hme:(w.alloc O).heap[w.heap.size]? = some O:=World.alloc_heap_new _ _
 have hold:∀k,k<w.heap.size->(w.alloc O).heap[k]? = w.heap[k]? := λk hk=>Below.heap_alloc w O k hk
 have hsize:(w.alloc O).heap.size=w.heap.size+1:=by simp
 have hφ:∀o B,(ext (λ_=>none) 600 ⟨w.heap.size,(Ad s).length,1,[],0⟩) o=some B->o=600/\B=⟨w.heap.size,(Ad s).length,1,[],0⟩:=λo B h=>by
  unfold ext at h
  split at h
  ·rename_i e;exact⟨e,(Option.some.inj h).symm⟩
  cases h
 have hhas:∀k,(⟨w.heap.size,(Ad s).length,1,[],0⟩:Xa).has k->k=w.heap.size:=λk hk=>Rn hk
 refine⟨_,.own 600 (Ad s).length,[(600,.arr 1 ((Ad s).map λx=>[V.s x]))],ext (λ_=>none) 600 ⟨w.heap.size,(Ad s).length,1,[],0⟩,rfl,⟨rfl,λc ob h=>h⟩,rfl,rfl,rfl,by rw[hsize];omega,λk hk _=>hold k hk,λo o' B B' k h1 h2 _ _=>by rw[(hφ o B h1).1,(hφ o' B' h2).1],λo B h=>?_,λo B k h hk=>?_,λo B k h hk _=>?_,⟨λo B h1 h2=>by obtain⟨rfl,_⟩:=hφ o B h2;omega,λo ob B _ h2 h3=>absurd h3 (hno o B)⟩,.own _ _ _ (XD _ _ _) (YZ _),λo ob h=>?_⟩
 ·rw[(hφ o B h).1];exact⟨_,QC _ _ _⟩
 ·obtain⟨_,rfl⟩:=hφ o B h
  have:=hhas k hk
  rw[hsize];exact⟨by omega,λh=>by omega⟩
 ·obtain⟨_,rfl⟩:=hφ o B h
  have:=hhas k hk;omega
 by_cases e:600=o
 ·subst e
  rw[QC]at h;cases h
  refine .inl ⟨_,XD _ _ _,rfl,by simp,λr hr=>?_,_,_,by rw[hme,<-hO],by rw[<-hlen];simp,λi r hi' j v hj=>?_⟩
  ·obtain⟨x,_,rfl⟩:=Yl.1 hr
   exact⟨rfl,λv hv=>by simp at hv;subst hv;rfl⟩
  rw[Yb]at hi'
  obtain⟨x,hx,rfl⟩:=XZ.1 hi'
  match j,hj with
  | 0,hj=>
   cases hj
   refine⟨.string x,?_,.s _⟩
   unfold Ad at hx
   rw[Yb]at hx
   obtain⟨l,hl',rfl⟩:=XZ.1 hx
   simp[hl']
  | j+1,hj=>simp at hj
 rw[QA _ _ e]at h;cases h
section
variable {P:Program}{C:XA}{σ:St}{o:Oper}
def Qf.storeNil {T b i off z zz:Nat}{x y:Operand}{rs rs':L_ (L_ V)}{r:L_ V}(ho:o.op=.store T x y)(hd:o.dst=none)(hx:σ.opd x=some (.loc b i off))
  (D:look σ.hp b=some (.arr z rs)) (hi:rs[i]? = some r) (hy:σ.opd y=some (.lit (.slice none 0 0))) (hs:UC P T=some 1) (h:Nat.ble (off+1) z=true) (he:rs.set i (Kw r off [.sl zz []])=rs'):Qf P C o σ (σ.set b (.arr z rs')):=
 Qf.storeAV (v:=.sl zz []) ho hd hx D hi (λφ a w hr=>by rw[(hr.opd hy).lit_inv];exact .dat (.sl0 none 0 zz)) (.inl rfl) hs rfl rfl rfl h he
def Qf.max3 {d:Nat}{x y z:Operand}{k:IntKind}{m n q:Int}{ts:Array TypeId}(ho:o.op=.call { callee:=.builtin .max,args:=#[x,y,z],argTypes:=ts })(D:o.dst=some d)(hn:B_ d C)
  (hx:σ.opd x=some (.i k m)) (hy:σ.opd y=some (.i k n)) (hz:σ.opd z=some (.i k q)):Qf P C o σ (σ.put d (.i k (Vm.max2 (Vm.max2 m n) q))):=by
 refine Qf.same D hn λφ a w h=>⟨.int k (Vm.max2 (Vm.max2 m n) q),?_,.dat (.i _ _)⟩
 simp[execOp,ho,(h.opd hx).i_inv,(h.opd hy).i_inv,(h.opd hz).i_inv,resolve,invoke,builtin,Builtin.max_,Builtin.max2,Vm.max2]
end
def Cl (w:World)(h:L_ Value)(vs:L_ V):Prop:=h.length=vs.length/\∀(j:Nat) c v,h[j]? = some c->vs[j]? = some v->Xy (λk=>k<w.heap.size) w c v
def Cl.nil {w:World}:Cl w [] []:=⟨rfl,λj c v h _=>by simp at h⟩
def Cl.one {w:World}{c:Value}{v:V}(h:Xy (λk=>k<w.heap.size) w c v):Cl w [c] [v]:=⟨rfl,λj c' v' y D=>by
 match j with
 | 0=>simp at y D;subst y;subst D;exact h
 | j+1=>simp at y⟩
def Cl.append {w:World}{a b:L_ Value}{u v:L_ V}(h:Cl w a u)(h2:Cl w b v):Cl w (a++b) (u++v):=by
 refine⟨by simp[h.1,h2.1],λj c x D y=>?_⟩
 by_cases hj:j<a.length
 ·rw[YL hj]at D
  rw[YL (by rw[<-h.1];exact hj)]at y
  exact h.2 j c x D y
 rw[Jx (by omega)]at D
 rw[Jx (by rw[<-h.1];omega)]at y
 rw[<-h.1]at y
 exact h2.2 _ c x D y
def Rd {H α:Type}(enc:TypeId×Value->H)(P:Program)(w:World)(N:Nat)(t:TypeId)(row:α->L_ V)(D:α->DataW H->Prop):Prop:=
 ∀(fuel:Nat) (h:L_ Value) (d:DataW H) (y:L_ MemPlace),fuel<=N->DataW.trod enc P w 0 (λ_=>true) true fuel t h=some (d,y)->∃x,D x d/\Cl w h (row x)
def QY {H α:Type}(enc:TypeId×Value->H)(P:Program)(w:World)(N:Nat)(off tot:Nat)(fs:L_ (Nat×Nat))(row:α->L_ V)(y:α->L_ (DataW H)->Prop):Prop:=
 ∀(fuel:Nat) (h:L_ Value) (xs:L_ (DataW H×L_ MemPlace)),fuel<=N->h.length=off+tot->(fs.mapM λf=>DataW.trod enc P w 0 (λ_=>true) true fuel f.1 ((h.drop f.2).take (P.cellsOf f.1)))=some xs->
  ∃x,y x (xs.map Prod.fst)/\Cl w (h.drop off) (row x)
section
variable {H:Type}{enc:TypeId×Value->H}{P:Program}{w:World}{N:Nat}{t:TypeId}
def Rd.mono {α:Type}{M:Nat}{row:α->L_ V}{y:α->DataW H->Prop}(h:Rd enc P w N t row y)(hM:M<=N):Rd enc P w M t row y:=λfuel D d ps hf e=>h fuel D d ps (Kj hf hM) e
def Rd.zero {α:Type}{row:α->L_ V}{h:α->DataW H->Prop}:Rd enc P w 0 t row h:=λfuel y d ps D e=>by
 have:fuel=0:=by omega
 subst this
 simp[DataW.trod]at e
def Rd.map {α β:Type}{row:α->L_ V}{wf:α->DataW H->Prop}{y:β->L_ V}{D:β->DataW H->Prop}(g:α->β)(h:Rd enc P w N t row wf)(hr:∀x,row x=y (g x))(hw:∀x d,wf x d->D (g x) d):Rd enc P w N t y D:=λfuel cs d ps hf e=>by
 obtain⟨x,h1,h2⟩:=h fuel cs d ps hf e
 exact⟨g x,hw x d h1,by rw[<-hr];exact h2⟩
def Rd.int {k:IntKind}(ht:P.underlying t=some (.int k)):Rd enc P w N t (λn:Int=>[V.i k n]) (λn d=>(Lit.int k n).wf=true/\d=.lit (.int k n)):=by
 intro fuel cs d ps _ e
 cases fuel with
 | zero=>simp[DataW.trod]at e
 | succ fuel=>
  simp only[DataW.trod,ht]at e
  split at e
  all_goals first | (cases e;done) | (rename_i h;cases h;done) | skip
  rename_i h
  cases h
  split at e
  ·rename_i D
   obtain⟨rfl,y⟩:=D
   cases e
   exact⟨_,⟨y,rfl⟩,Cl.one (.i _ _)⟩
  cases e
def Rd.bool (y:P.underlying t=some .bool):Rd enc P w N t (λn:Bool=>[V.b n]) (λn d=>d=.lit (.bool n)):=by
 intro fuel D d ps _ e
 cases fuel with
 | zero=>simp[DataW.trod]at e
 | succ fuel=>
  simp only[DataW.trod,y]at e
  split at e
  all_goals first | (cases e;done) | (rename_i h;cases h;done) | skip
  cases e
  exact⟨_,rfl,Cl.one (.b _)⟩
def Rd.string (D:P.underlying t=some .string):Rd enc P w N t (λn:ByteArray=>[V.s n]) (λn d=>n.size<=maxLen/\d=.lit (.string n.data.toList)):=by
 intro fuel cs d ps _ e
 cases fuel with
 | zero=>simp[DataW.trod]at e
 | succ fuel=>
  simp only[DataW.trod,D]at e
  split at e
  all_goals first | (cases e;done) | (rename_i y;cases y;done) | skip
  split at e
  ·rename_i h
   cases e
   exact⟨_,⟨h,rfl⟩,Cl.one (.s _)⟩
  cases e
def Qmk {α:Type}{Q:Nat->α->Prop}:∀n:Nat,(∀i,i<n->∃x,Q i x)->∃l:L_ α,l.length=n/\∀i x,l[i]? = some x->Q i x:=by
 intro n
 induction n with
 | zero=>intro _;exact⟨[],rfl,λi x h=>by simp at h⟩
 | succ n ih=>
  intro h
  obtain⟨l,h1,h2⟩:=ih λi hi=>h i (by omega)
  obtain⟨x,hx⟩:=h n (by omega)
  refine⟨l++[x],by simp[h1],λi y D=>?_⟩
  by_cases hi:i<l.length
  ·rw[YL hi]at D;exact h2 i y D
  have:=(Xe.1 D).1
  simp at this
  have:i=l.length:=by omega
  subst this
  simp at D;subst D;rw[h1];exact hx
def wfL {α:Type}(h:α->DataW H->Prop)(l:L_ α)(d:DataW H):Prop:=l.length<=maxLen/\((d=.nil/\l=[])\/∃es sp,d=.slice es sp/\es.length=l.length/\∀(i:Nat) x e,l[i]? = some x->es[i]? = some e->h x e)
def Rd.slice {α:Type}{e z:Nat}{row:α->L_ V}{wf:α->DataW H->Prop}(ht:P.underlying t=some (.slice e))(hz:P.cellsOf e=z)(hz0:0<z)(hrow:∀x,Er z (row x))(he:Rd enc P w N e row wf):
  Rd enc P w N t (λl:L_ α=>[V.sl z (l.map row)]) (wfL wf):=by
 subst hz
 intro fuel cs d ps hN h
 cases fuel with
 | zero=>simp[DataW.trod]at h
 | succ fuel=>
  simp only[DataW.trod,ht]at h
  split at h
  all_goals first | (cases h;done) | (rename_i hq;cases hq;done) | skip
  ·cases h;exact⟨[],⟨Nat.zero_le _,.inl ⟨rfl,rfl⟩⟩,Cl.one (.sl0 _ _ _)⟩
  rename_i a len cap hq
  cases hq
  split at h
  ·rename_i hc
   obtain⟨_,hlc,hcm⟩:=hc
   obtain⟨D,hel,h⟩:=My.1 h
   obtain⟨rest,_,h⟩:=XZ.1 h
   have hlen:D.length=len:=by simpa using mapM_some_length hel
   have hat:∀i,i<len->∃y rc,D[i]? = some y/\w.cells? 0 (a.add (i*P.cellsOf e)) (P.cellsOf e)=some rc/\DataW.trod enc P w 0 (λ_=>true) true fuel e rc=some y:=λi hi=>by
    have:=mapM_some_get hel i i (by simp[hi])
    obtain⟨y,hy⟩:∃y,D[i]? = some y:=⟨_,QR (by omega)⟩
    rw[hy]at this
    obtain⟨rc,h1,h2⟩:=My.1 this
    exact⟨y,rc,hy,h1,h2⟩
   obtain⟨l,hl,hQ⟩:=Qmk (Q:=λi x=>∃y rc,D[i]? = some y/\w.cells? 0 (a.add (i*P.cellsOf e)) (P.cellsOf e)=some rc/\wf x y.1/\Cl w rc (row x)) len λi hi=>by
    obtain⟨y,rc,h1,h2,h3⟩:=hat i hi
    obtain⟨x,h4,h5⟩:=he fuel rc y.1 y.2 (by omega) h3
    exact⟨x,y,rc,h1,h2,h4,h5⟩
   have hd:d=.slice (D.map (·.1)) (rest.map (·.1)):=by cases h;rfl
   refine⟨l,⟨by omega,.inr ⟨_,_,hd,by simp[hl,hlen],λi x e' hx he'=>?_⟩⟩,Cl.one ?_⟩
   ·obtain⟨y,rc,h1,_,h3,_⟩:=hQ i x hx
    rw[Yb,h1]at he'
    cases he';exact h3
   by_cases h0:len=0
   ·have:l=[]:=Mu.1 (by omega)
    subst this;subst h0;exact .sl0 _ _ _
   obtain⟨b,off,spot⟩:=a
   obtain⟨y0,rc0,_,h02,_⟩:=hat 0 (by omega)
   have hs:spot=none:=by
    obtain⟨_,h2,h3⟩:=World.cells?_some h02
    have h4:=h3 0 hz0
    obtain⟨c0,hc0⟩:∃c0,rc0[0]? = some c0:=⟨_,QR (by omega)⟩
    rw[hc0]at h4
    simpa[Addr.add] using World.cell?_spot h4
   subst hs
   have hb:b<w.heap.size:=by
    have hb:=World.cells?_block h02 hz0
    rwa[WideShapes.add_plain]at hb
   have hcell:∀i,i<len->∀rc,w.cells? 0 ((⟨b,off,none⟩:Addr).add (i*P.cellsOf e)) (P.cellsOf e)=some rc->rc.length=P.cellsOf e/\∀j,j<P.cellsOf e->w.cell? ⟨b,off+(i*P.cellsOf e+j),none⟩=rc[j]? := λi hi rc h=>by
    obtain⟨_,h2,h3⟩:=World.cells?_some h
    refine⟨h2,λj hj=>?_⟩
    have:=h3 j hj
    rw[WideShapes.add_plain,WideShapes.add_plain]at this
    rw[<-Mw];exact this
   refine .sl b off len cap (P.cellsOf e) (l.map row) (λj=>(w.cell? ⟨b,off+j,none⟩).getD undef) hb (by simp[hl]) hlc (λr hr=>by obtain⟨x,_,rfl⟩:=Yl.1 hr;exact hrow x) (λj hj=>?_) (λi r hr j v hv=>?_)
   ·have hij:j / P.cellsOf e<len:=Nat.div_lt_of_lt_mul (by rw[Nat.mul_comm];exact hj)
    obtain⟨y,rc,_,h2,_⟩:=hat (j / P.cellsOf e) hij
    obtain⟨h3,h4⟩:=hcell _ hij rc h2
    have h5:=h4 (j % P.cellsOf e) (Nat.mod_lt _ hz0)
    rw[Nat.mul_comm (j / P.cellsOf e),Nat.div_add_mod]at h5
    rw[h5]
    have:j % P.cellsOf e<rc.length:=by rw[h3];exact Nat.mod_lt _ hz0
    rw[QR this];rfl
   rw[Yb]at hr
   obtain⟨x,hx,rfl⟩:=XZ.1 hr
   have hi:i<len:=by rw[<-hl];exact(Xe.1 hx).1
   obtain⟨y,rc,_,h2,_,h3⟩:=hQ i x hx
   obtain⟨h4,h5⟩:=hcell i hi rc h2
   have hj:j<P.cellsOf e:=by rw[<-(hrow x).1];exact(Xe.1 hv).1
   have h6:=h5 j hj
   obtain⟨c,hc⟩:∃c,rc[j]? = some c:=⟨_,QR (by omega)⟩
   rw[hc]at h6
   show Xy _ w ((w.cell? ⟨b,off+(i*P.cellsOf e+j),none⟩).getD undef) v
   rw[h6]
   exact h3.2 j c v hc hv
  cases h
def QY.nil {off:Nat}:QY enc P w N off 0 [] (λ_:Unit=>[]) (λ_ xs=>xs=[]):=λfuel y xs _ D h=>by
 simp at h
 subst h
 exact⟨(),rfl,by rw[List.drop_of_length_le (by omega)];exact Cl.nil⟩
def QY.cons {α β:Type}(t off z:Nat){tot:Nat}{fs:L_ (Nat×Nat)}{D:α->L_ V}{row2:β->L_ V}{wf1:α->DataW H->Prop}{wf2:β->L_ (DataW H)->Prop}(hz:P.cellsOf t=z)
  (h1:Rd enc P w N t D wf1) (h2:QY enc P w N (off+z) tot fs row2 wf2):QY enc P w N off (z+tot) ((t,off)::fs) (λx:α×β=>D x.1++row2 x.2) (λx ds=>∃d r,ds=d::r/\wf1 x.1 d/\wf2 x.2 r):=by
 intro fuel cs xs hN hl h
 subst hz
 rw[List.mapM_cons]at h
 obtain⟨y,hy,h⟩:=My.1 h
 obtain⟨ys,hys,h⟩:=My.1 h
 cases h
 obtain⟨x1,a1,a2⟩:=h1 fuel _ y.1 y.2 hN hy
 obtain⟨x2,b1,b2⟩:=h2 fuel cs ys hN (by omega) hys
 refine⟨(x1,x2),⟨y.1,ys.map Prod.fst,rfl,a1,b1⟩,?_⟩
 have:cs.drop off=(cs.drop off).take (P.cellsOf t)++cs.drop (off+P.cellsOf t):=by
  rw[<-List.drop_drop,List.take_append_drop]
 rw[this]
 exact a2.append b2
def Qcs (P:Program)(t:TypeId)(fs:L_ (Nat×Nat))(tot:Nat):Bool:=match P.underlying t with
 | some (.struct h)=>(h.toList.map λf=>(f.type,f.offset))==fs&&P.cellsOf t==tot
 | _=>false
def Qdf {t tot:Nat}{fs:L_ (Nat×Nat)}(h:Qcs P t fs tot=true):∃y,P.underlying t=some (.struct y)/\(y.toList.map λf=>(f.type,f.offset))=fs/\P.cellsOf t=tot:=by
 unfold Qcs at h
 split at h
 ·rename_i y D
  rw[QL,beq_iff_eq,beq_iff_eq]at h
  exact⟨y,D,h.1,h.2⟩
 cases h
def Rd.struct {α:Type}{fs:L_ (Nat×Nat)}{tot:Nat}{row:α->L_ V}{wf:α->L_ (DataW H)->Prop}(hB:Qcs P t fs tot=true)(hf:QY enc P w N 0 tot fs row wf):
  Rd enc P w (N+1) t row (λx d=>∃ds,d=.agg ds/\wf x ds):=by
 obtain⟨gs,ht,y,hc⟩:=Qdf hB
 intro fuel cs d ps hN h
 cases fuel with
 | zero=>simp[DataW.trod]at h
 | succ fuel=>
  simp only[DataW.trod,ht]at h
  split at h
  ·rename_i hl
   obtain⟨xs,D,h⟩:=XZ.1 h
   cases h
   obtain⟨x,a1,a2⟩:=hf fuel cs xs (by omega) (by rw[hl,hc];omega) (by rw[<-y,List.mapM_map];exact D)
   exact⟨x,⟨_,rfl,a1⟩,a2⟩
  cases h
def QhH (P:Program)(t e n tot:Nat)(fs:L_ (Nat×Nat)):Bool:=match P.underlying t with
 | some (.array m e')=>m==n&&e'==e&&P.cellsOf t==tot&&((List.range n).map λi=>(e,i*P.cellsOf e))==fs
 | _=>false
def Qjf {t e n tot:Nat}{fs:L_ (Nat×Nat)}(h:QhH P t e n tot fs=true):P.underlying t=some (.array n e)/\P.cellsOf t=tot/\((List.range n).map λi=>(e,i*P.cellsOf e))=fs:=by
 unfold QhH at h
 split at h
 ·rename_i m e' D
  simp only[QL,beq_iff_eq]at h
  obtain⟨⟨⟨rfl,rfl⟩,h⟩,y⟩:=h
  exact⟨D,h,y⟩
 cases h
def Rd.array {α:Type}{e n tot:Nat}{fs:L_ (Nat×Nat)}{row:α->L_ V}{wf:α->L_ (DataW H)->Prop}(hB:QhH P t e n tot fs=true)(hf:QY enc P w N 0 tot fs row wf):
  Rd enc P w (N+1) t row (λx d=>∃ds,d=.agg ds/\wf x ds):=by
 obtain⟨ht,hc,y⟩:=Qjf hB
 intro fuel cs d ps hN h
 cases fuel with
 | zero=>simp[DataW.trod]at h
 | succ fuel=>
  simp only[DataW.trod,ht]at h
  split at h
  ·rename_i hl
   obtain⟨xs,D,h⟩:=XZ.1 h
   cases h
   obtain⟨x,a1,a2⟩:=hf fuel cs xs (by omega) (by rw[hl,hc];omega) (by rw[<-y,List.mapM_map];exact D)
   exact⟨x,⟨_,rfl,a1⟩,a2⟩
  cases h
def Jn (k:IntKind)(n:Int):Prop:=k.min<=n/\n<=k.max
def Py (s:ByteArray):Prop:=s.size<=maxLen
def YW {α:Type}(ok:α->Prop)(l:L_ α):Prop:=l.length<=maxLen/\∀x∈l,ok x
def QjZ {k:IntKind}{n:Int}{d:DataW H}(h:(Lit.int k n).wf=true/\d=.lit (.int k n)):Jn k n:=by
 have:=h.1
 simp only[Lit.wf,QL,QM]at this
 exact this
def Ws {α:Type}{ok:α->Prop}{l:L_ α}{d:DataW H}(h:wfL (λx _=>ok x) l d):YW ok l:=by
 refine⟨h.1,λx hx=>?_⟩
 rcases h.2 with⟨_,rfl⟩|⟨es,sp,_,h3,h4⟩
 ·simp at hx
 obtain⟨i,D⟩:=Mv.1 hx
 have y:i<es.length:=by rw[h3];exact(Xe.1 D).1
 exact h4 i x _ D (QR y)
def QhI {w:World}{r:Reach}{base t tot:Nat}{v:Value}{fs:L_ (Nat×Nat)}(h:Qcs P t fs tot=true)(hv:Value.okWide P w r base t v):∃y,v=.agg y:=by
 obtain⟨gs,D,_⟩:=Qdf h
 obtain⟨y,h2,_⟩:=WideShapes.okWide_struct D hv
 exact⟨y,h2⟩
def Yt {z:Nat}{r:L_ V}(h:(Nat.beq r.length z&&r.all V.one)=true):Er z r:=by
 rw[QL,XE]at h
 exact⟨YE h.1,h.2⟩
end
section
variable {H:Type}{enc:TypeId×Value->H}{P:Program}
def QX.law {f:FuncId}{us:L_ V}{args:Array Value}{W:World}(h:QX P f us [] (Gives (.b true) []))(hG:NK P (λk=>k<W.heap.size) W)(hs:args.size=us.length)
  (ha:∀(j:Nat) x v,args[j]? = some x->us[j]? = some v->Xy (λk=>k<W.heap.size) W x v):Calls P f args W λe w'=>e=.returned (.bool true)/\Below W.heap.size W w':=by
 refine(h (λk=>k<W.heap.size) (λ_=>none) W args ⟨λk y=>y,λ_ _ _ _ _ h=>(by cases h),λ_ _ h=>(by cases h),hs,λj x v D h2=>.dat (ha j x v D h2),λ_ _ h=>(by cases h)⟩ hG).mono ?_
 rintro e w' ⟨x,v,hs',φ',rfl,⟨rfl,_⟩,out⟩
 exact⟨by rw[out.rep.b_inv],out.os,out.tape,out.output,out.size,λk y=>out.kept k y λ_ _ h=>by cases h⟩
def QaD (hl:laidOutB P=true){W W':World}(hb:Below W.heap.size W W'):∀{D:L_ TypeId} {vs:L_ Value} {ds:L_ (DataW H)} {ps:L_ MemPlace},(∀t∈D,P.readableRec t=true/\t<P.types.size)->
  DataW.TrodAll enc P W 0 (λ_=>true) true D vs ds ps->(∀x∈ps,x.block<W.heap.size)->DataW.TrodAll enc P W' 0 (λb=>decide (b<W.heap.size)) true D vs ds ps
 | [],[],[],_,_,h,_=>h
 | t::D,v::vs,d::ds,_,hr,⟨p,q,h1,h2,e⟩,y=>⟨p,q,Below.trod hl (hr t (YF)).1 (hr t (YF)).2 h1 hb (λx hx=>y x (by rw[e];exact SZ _ hx)),
   QaD hl hb (λt ht=>hr t (Jz _ ht)) h2 (λx hx=>y x (by rw[e];exact List.mem_append_right _ hx)),e⟩
def QhJ {f:Func}{s:ChangeSpec}{y fresh:Bool}{W W':World}{args:Array Value}{ds:L_ (DataW H)}{D:L_ MemPlace}{tb:TypeId}(hl:laidOutB P=true)(hr:∀t∈f.params.toList,P.readableRec t=true/\t<P.types.size)
  (hW:DataW.Whole enc P f.params.toList s.vars y W args.toList ds [] D) (hv:s.vars=[]) (hb:Below W.heap.size W W') (hrt:f.resultTypes=#[tb]) (htb:P.underlying tb=some .bool)
  (hres:(s.fn H (ds++[])).results=[.lit (.bool true)]) (hargs:(s.fn H (ds++[])).args=ds) (hvars:(s.fn H (ds++[])).vars=[]):s.post enc P f y fresh false false W args (.bool true) W':=by
 have hW0:=hW
 obtain⟨p,q,hA,hV,rfl,_,_⟩:=hW
 have hlt:=hW0.lt
 rw[hv]at hV
 have hq:q=[]:=hV
 subst hq
 refine⟨ds,[],_,[],p,[],hW0,?_,?_,?_,?_,λh=>by cases h⟩
 ·rw[hres,hrt]
  exact⟨[],[],shut_bool htb true,rfl,rfl⟩
 ·rw[hargs]
  exact QaD hl hb hr hA λx hx=>hlt x (SZ _ hx)
 ·rw[hvars,hv];rfl
 exact World.keptBut_mono (λp hp=>hp.elim) (hb.frame (λ_=>False))
def Cl.arg1 {w:World}{v:Value}{x:V}(y:v.cells.toList=[v])(h:Cl w v.cells.toList [x]):Xy (λk=>k<w.heap.size) w v x:=h.2 0 v x (by rw[y];rfl) rfl
def Cl.argS {w:World}{y:Array Value}{vs:L_ V}(h:Cl w (Value.agg y).cells.toList vs):Xy (λk=>k<w.heap.size) w (.agg y) (.agg vs):=by
 refine .agg y vs (by simpa[Value.cells] using h.1) λj x v hx D=>h.2 j x v (by simpa[Value.cells] using hx) D
def Rd.open {α:Type}{w:World}{t:TypeId}{row:α->L_ V}{y:α->DataW H->Prop}{v:Value}{d:DataW H}{p:L_ MemPlace}(h:∀N,Rd enc P w N t row y)(D:DataW.Trod enc P w 0 (λ_=>true) true t v d p):∃x,y x d/\Cl w v.cells.toList (row x):=by
 obtain⟨n,hn⟩:=D
 exact h n n _ _ _ (YZ _) hn
end
section
variable {P:Program}{C:XA}{Q:Exit->St->Prop}{σ:St}{ks:L_ Fr}{o:Oper}
def Qgw {σ':St}{φ φ':Prop}{d f:Nat}{vs us:L_ V}{M N:L_ (Nat×Nat)}{dead:L_ Nat}{ms:L_ Mode}{outs D:H_}{r:V}
  (hus:MA (Gd M) ms vs=some us) (hC:CY (Gd M) (look σ.hp) M=some D)
  (e:cmV P σ φ d f vs M N dead ms outs r=some (σ',φ')):∃y r',DK σ M N dead outs=true/\(M.map Prod.fst).Nodup/\Vws σ.hp false false (Et M) (λa b=>look M b=some a) vs us/\Iy σ.hp false false (Et M) (λa b=>look M b=some a) σ.hp M D/\
   Iy [] false false [] (λc b=>look N b=some c) outs N y/\Vw [] false false [] (λc b=>look N b=some c) r r'/\σ'=(σ.after dead y).put d r':=by
 unfold cmV at e
 replace e:=XV e;obtain⟨e1,e⟩:=e
 simp only[QL]at e1
 obtain⟨⟨h1,h2⟩,h3⟩:=e1
 have h2:=Dh.1 h2
 have h3:=Dh.1 h3
 have inj:FY M=true/\FY N=true:=by
  simp only[DK,QL]at h1
  exact⟨h1.1.1.1,h1.1.1.2⟩
 have mM:∀a b,Gd M a=some b->look M b=some a:=λa b h=>KE inj.1 (CP h) h2
 have mN:∀a b,Gd N a=some b->look N b=some a:=λa b h=>KE inj.2 (CP h) h3
 simp only[hus,hC]at e
 split at e
 ·rename_i y hN
  split at e
  ·rename_i r' hr
   cases e
   exact⟨y,r',h1,h2,IP mM hus,Gh mM hC,Gh mN hN,Md mN hr,rfl⟩
  cases e
 cases e
def AK.callE {ι:Type}[Inhabited ι]{Φ:ι->Prop}{d f n:Nat}{ops:Array Oper}{rest:L_ Oper}{vs us:L_ V}{hsC:H_}(M N:L_ (Nat×Nat))(dead:L_ Nat)(ms:L_ Mode)(outs:ι->H_)(r:ι->V)(σ':ι->St)
  (hg:o.guard=none) (hCn:Jq P C n) (hE:YU P C o σ f vs) (hd:o.dst=some d) (hn:B_ d C)
  (hus:MA (Gd M) ms vs=some us) (hC:CY (Gd M) (look σ.hp) M=some hsC)
  (hc:QX P f us hsC λv hs=>∃x,Φ x/\Gives (r x) (outs x) v hs)
  (e:∀x,∃φ',cmV P σ True d f vs M N dead ms (outs x) (r x)=some (σ' x,φ'))
  (k:∀x,Φ x->AK P C Q (.o ops rest) ks (σ' x)):AK P C Q (.o ops (o::rest)) ks σ:=by
 intro a w ⟨φ,hr⟩
 simp only[wpListIn,Region.wanted,hg,if_true]
 refine⟨λ_ _=>trivial,?_⟩
 obtain⟨vals,hex,h1,h2⟩:=hE φ a w hr
 rw[VN hex,Oper.uponIn_enter]
 obtain⟨_,e0⟩:=e default
 obtain⟨_,_,n1,n2,hv,y,_,_,_⟩:=Qgw hus hC e0
 have hN0:=Names.of n1 n2
 refine⟨(λh=>by cases h),VO ((hc _ _ w _ (Ins.of_vals hr h1 h2 hN0.injM hN0.param hv y) ((hr.glob hCn.g).mono λ_ h=>.inl h)).mono ?_)⟩
 rintro e' w' ⟨x,v,hs',φ',rfl,⟨i,hΦ,rfl,hso⟩,hout⟩
 obtain⟨_,ei⟩:=e i
 obtain⟨hsN,r',n1,n2,_,_,D,hr',hσ⟩:=Qgw hus hC ei
 have hN:=Names.of n1 n2
 obtain⟨h3,h4⟩:=hr.after hN hout hso (λc s h=>by
  obtain⟨ob',e1⟩:=y.get.2 c s h
  obtain⟨s',ob,e2,e3,_⟩:=y.get.1 c ob' e1
  rw[h]at e2;cases e2;exact⟨ob,e3⟩) D
 refine k i hΦ _ _ ⟨Iz φ M N dead φ',?_⟩
 rw[hd,hσ]
 exact h3.put (XP hn) (h4 hr')
def Qgx {σ':St}{φ':Prop}{f:Nat}{vs us:L_ V}{M N:L_ (Nat×Nat)}{dead:L_ Nat}{ms:L_ Mode}{outs D:H_}{r:V}
  (hus:MA (Gd M) ms vs=some us) (hC:CY (Gd M) (look σ.hp) M=some D)
  (e:rgV P σ f vs M N dead ms outs r=some (σ',φ')):∃y,DK σ M N dead outs=true/\(M.map Prod.fst).Nodup/\Vws σ.hp false false (Et M) (λa b=>look M b=some a) vs us/\Iy σ.hp false false (Et M) (λa b=>look M b=some a) σ.hp M D/\
   Iy [] false false [] (λc b=>look N b=some c) outs N y/\σ'=σ.after dead y:=by
 unfold rgV at e
 replace e:=XV e;obtain⟨e1,e⟩:=e
 simp only[QL]at e1
 obtain⟨⟨h1,h2⟩,h3⟩:=e1
 have h2:=Dh.1 h2
 have h3:=Dh.1 h3
 have inj:FY M=true/\FY N=true:=by
  simp only[DK,QL]at h1
  exact⟨h1.1.1.1,h1.1.1.2⟩
 have mM:∀a b,Gd M a=some b->look M b=some a:=λa b h=>KE inj.1 (CP h) h2
 have mN:∀a b,Gd N a=some b->look N b=some a:=λa b h=>KE inj.2 (CP h) h3
 simp only[hus,hC]at e
 split at e
 ·rename_i y hN
  cases e
  exact⟨y,h1,h2,IP mM hus,Gh mM hC,Gh mN hN,rfl⟩
 cases e
def AK.rangeFE {ι:Type}[Inhabited ι]{Φ:ι->Prop}{g:Operand}{ps:Array Tmp}{assign body:Code}{f n:Nat}{fs cps:L_ V}(b:Nat)(ts:L_ Nat)(M N:L_ (Nat×Nat))(dead:L_ Nat)(ms:L_ Mode)(K:Nat->AR)(hCn:Jq P C n)(hrnd:C.rnd=none)(hK:∀fn,K fn=⟨fn,ps,assign,body⟩)
  (hg:σ.opd g=some (.clo (.func f) fs cps)) (he:Vb P f=true) (hb:look σ.hp b=none) (hb2:Nat.ble 617 b=false)
  (H:∀l fn,∃(outs:ι->H_) (r:ι->V) (σ2:ι->St) (us:L_ V) (hsC:H_),MA (Gd M) ms (fs++(.clo (.yield l) [] []::cps))=some us/\CY (Gd M) (look (σ.set b (.lp l (K fn) (snap ts σ.fr n) 0)).hp) M=some hsC/\
   QX P f us hsC (λv hs=>∃x,Φ x/\Gives (r x) (outs x) v hs)/\∀x,∃φ2 cs2 q,rgV P (σ.set b (.lp l (K fn) (snap ts σ.fr n) 0)) f (fs++(.clo (.yield l) [] []::cps)) M N dead ms (outs x) (r x)=some (σ2 x,φ2)/\look (σ2 x).hp b=some (.lp l (K fn) cs2 q)/\q≠1/\
   (Φ x->atJ (AK P C Q (.x .normal) ks ((σ2 x).kill b)) (λc=>AK P C Q (.c c) ks ((σ2 x).kill b)) (VM q))):AK P C Q (.c (.rangeFunc g ps assign body)) ks σ:=by
 obtain rfl:K=λfn=>⟨fn,ps,assign,body⟩:=funext hK
 have hpg:=hCn.g
 replace hCn:=hCn.n
 subst hCn
 intro a w ⟨φ,hr⟩
 refine wpIn_rangeFunc λfn _=>?_
 obtain⟨outs,r,σ2,us,hsC,hus,hC,hcall,hx⟩:=H (w.heap.size+1) fn
 obtain⟨xs,ys,hev,e1,e2,e3,e4⟩:=(hr.opd hg).clo_inv
 have hb3:b<617:=Ab (by rw[hb2];rfl)
 refine⟨w.heap.size+1,[{ target:=.collected w.heap.size,args:=#[] }],(w.alloc (.deferred (some []))).alloc (.loop { state:=.ready,pending:=none,fn,tmps:=a.tmps,params:=ps,assign,body,defers:=w.heap.size }),{ target:=.fn (.func f) ys,args:=xs++#[.func (.yield (w.heap.size+1)) #[] #[]] },(w.alloc (.deferred (some []))).alloc (.loop { state:=.ready,pending:=none,fn,tmps:=a.tmps,params:=ps,assign,body,defers:=w.heap.size }),f,(xs++#[.func (.yield (w.heap.size+1)) #[] #[]])++ys,(w.alloc (.deferred (some []))).alloc (.loop { state:=.ready,pending:=none,fn,tmps:=a.tmps,params:=ps,assign,body,defers:=w.heap.size }),?_,?_,λ_ _=>trivial,?_,(λh=>by cases h),?_⟩
 ·rw[show C.F.round=none from hrnd];exact run_enterLoop_outer _ _ _ _ _
 ·have hy:a.eval (.const (.func (.yield (w.heap.size+1)) #[] #[]))=.func (.yield (w.heap.size+1)) #[] #[]:=rfl
  simp only[resolve,hev,Deferred.ofValue,Xx,List.map_toArray,GK,List.map_nil,hy]
 ·exact FW he
 have hm:=hr.mark
 have hN0:=hm.none_of_look hb
 have hsz:(w.alloc (.deferred (some []))).heap.size=w.heap.size+1:=by simp
 have hR1:=hm.alloc (cap:=0) (z:=0) hb hb3 (ob:=.lp (w.heap.size+1) ⟨fn,ps,assign,body⟩ (snap ts σ.fr C.n) 0)
  (obj:=.loop { state:=.ready,pending:=none,fn,tmps:=a.tmps,params:=ps,assign,body,defers:=w.heap.size })
  ⟨a.tmps,w.heap.size,hsz,rfl,by rw[<-hsz];exact World.alloc_heap_new _ _,by rw[hr.tmps];simp[Vm.snap],λj x v hx hv=>(hm.snap j x v hx hv).mono (hm.mono_ext _ hN0) (hm.imm_alloc b 0 0 _ hN0)⟩
 rw[hsz]at hR1
 generalize hσ1:σ.set b (.lp (w.heap.size+1) ⟨fn,ps,assign,body⟩ (snap ts σ.fr C.n) 0)=σ1 at hR1 hx hC
 generalize hw1:(w.alloc (.deferred (some []))).alloc (.loop { state:=.ready,pending:=none,fn,tmps:=a.tmps,params:=ps,assign,body,defers:=w.heap.size })=w1 at hR1 ⊢
 have hval:(xs++#[.func (.yield (w.heap.size+1)) #[] #[]])++ys=(xs.toList++(.func (.yield (w.heap.size+1)) #[] #[]::ys.toList)).toArray:=by apply Array.ext';simp
 rw[hval]
 obtain⟨_,_,_,ed,_⟩:=hx default
 obtain⟨_,n1,n2,hv,hobs,_,_⟩:=Qgx hus hC ed
 have hNm:=Names.of n1 n2
 have hfr1:σ1.fr=σ.fr:=by rw[<-hσ1];rfl
 refine VO ((hcall _ _ w1 _ (Ins.of_vals (g:=false) (vs:=fs++(.clo (.yield (w.heap.size+1)) [] []::cps)) hR1 (by simp[e1,e2]) (λj x v hx hv=>?_) hNm.injM hNm.param hv hobs) ((hR1.glob hpg).mono λ_ h=>.inl h)).mono ?_)
 ·have up:=λ{x:Value} {v:V} (h:QO φ (Xj C φ w) w x v)=>(h.mono (φ':=φ) (I':=Xj C φ (w.alloc (.deferred (some [])))) (w':=w.alloc (.deferred (some []))) (λ_ _ h=>h) λk hk=>⟨⟨by have:=hk.1;simp;omega,hk.2⟩,Below.heap_alloc w _ k hk.1⟩).mono (hm.mono_ext ⟨w.heap.size+1,0,0,[],0⟩ hN0) (by
   have:=hm.imm_alloc b 0 0 (.loop { state:=.ready,pending:=none,fn,tmps:=a.tmps,params:=ps,assign,body,defers:=w.heap.size }) hN0
   rw[hsz,hw1]at this;exact this)
  by_cases c1:j<fs.length
  ·rw[YL (by simpa using (by omega:j<xs.size))]at hx
   rw[YL c1]at hv
   exact up (e3 j x v (by simpa using hx) hv)
  rw[Jx (by simp;omega)]at hx
  rw[Jx (by omega)]at hv
  simp only[Array.length_toList]at hx
  rw[e1]at hx
  generalize j-fs.length=i at hx hv
  cases i with
  | zero=>
   simp at hx hv;subst hx;subst hv
   exact .clo (.yield _) #[] #[] [] [] rfl rfl (λj x v h=>by simp at h) (λj x v h=>by simp at h)
  | succ i=>simp only[Qcj]at hx hv;exact up (e4 i x v (by simpa using hx) hv)
 rintro e w' ⟨x,v,hs',φ',rfl,⟨i,hΦ,rfl,hso⟩,hout⟩
 obtain⟨_,cs2,q,ei,hq,hq1,hk⟩:=hx i
 replace hk:=hk hΦ
 obtain⟨hsN,n1,n2,_,_,hback,hσ2⟩:=Qgx hus hC ei
 have hNm:=Names.of n1 n2
 obtain⟨k3,_⟩:=hR1.after hNm hout hso (λc s h=>by
  obtain⟨ob',e1⟩:=hobs.get.2 c s h
  obtain⟨s',ob,e2,e3,_⟩:=hobs.get.1 c ob' e1
  rw[h]at e2;cases e2;exact⟨ob,e3⟩) hback
 rw[<-hσ2]at k3
 obtain⟨B,hB,tmps,D,f1,f2,f3,f4,f5⟩:=k3.lp hq
 have hst:lst q≠.busy:=by
  match q,hq1 with
  | 0,_=>exact(by intro h;cases h)
  | 1,h=>exact absurd rfl h
  | k+2,_=>exact(by intro h;cases h)
 refine⟨_,_,run_endLoop f3 hst,?_⟩
 have y:=k3.killTo hB (w':=w'.putObj (w.heap.size+1) (.loop { state:=.exhausted,pending:=VM q,fn,tmps,params:=ps,assign,body,defers:=D })) rfl rfl rfl World.putObj_size (λk hk=>World.putObj_heap_other (by rw[<-f1];exact hk))
 simp only
 cases hj:VM q with
 | none=>rw[hj]at hk y;exact hk _ _ ⟨_,y⟩
 | some c=>rw[hj]at hk y;exact hk _ _ ⟨_,y⟩
def AK.rangeF {Q:Exit->St->Prop}{ks:L_ Fr}{g:Operand}{ps:Array Tmp}{assign body:Code}{f n:Nat}{fs D:L_ V}(b:Nat)(ts:L_ Nat)(M N:L_ (Nat×Nat))(dead:L_ Nat)(ms:L_ Mode)(K:Nat->AR)(hCn:Jq P C n)(hrnd:C.rnd=none)(hK:∀fn,K fn=⟨fn,ps,assign,body⟩)
  (hg:σ.opd g=some (.clo (.func f) fs D)) (he:Vb P f=true) (hb:look σ.hp b=none) (hb2:Nat.ble 617 b=false)
  (H:∀l fn,∃outs r σ2 φ2 y q,rgV P (σ.set b (.lp l (K fn) (snap ts σ.fr n) 0)) f (fs++(.clo (.yield l) [] []::D)) M N dead ms outs r=some (σ2,φ2)/\φ2/\look σ2.hp b=some (.lp l (K fn) y q)/\q≠1/\
   atJ (AK P C Q (.x .normal) ks (σ2.kill b)) (λc=>AK P C Q (.c c) ks (σ2.kill b)) (VM q)):AK P C Q (.c (.rangeFunc g ps assign body)) ks σ:=by
 refine AK.rangeFE (ι:=Unit) (Φ:=λ_=>True) b ts M N dead ms K hCn hrnd hK hg he hb hb2 λl fn=>?_
 obtain⟨outs,r,σ2,φ2,y,q,e,hφ2,hq,hq1,hk⟩:=H l fn
 have e':=e
 unfold rgV at e
 replace e:=XV e;obtain⟨_,e⟩:=e
 split at e
 ·rename_i us hus
  split at e
  ·rename_i hsC hC
   split at e
   ·cases e
    exact⟨λ_=>outs,λ_=>r,λ_=>_,us,hsC,hus,hC,hφ2.mono (λv hs h=>⟨(),trivial,h⟩),λ_=>⟨_,y,q,e',hq,hq1,λ_=>hk⟩⟩
   cases e
  cases e
 cases e
end
def Qjg (n:Nat)(p:Int×Int):O_ (Nat⊕Empty):=some (.inl (n+1))
def Qdr : ∀(l:L_ (Int×Int)) (n:Nat),WD Qjg n l=some (.inl (n+l.length)):=by
 intro l
 induction l with
 | nil=>intro n;rfl
 | cons p l h=>intro n;simp only[WD,Qjg,Qc,Sum.elim_inl];rw[h];simp[Nat.add_comm,Nat.add_left_comm]
def Qj0 (l:L_ (Int×Int))(n:Nat):Cw Qjg n l=some (.inl (n+l.length)):=HK.2 ⟨λy h=>by rw[Qdr,Qdr,h.length_eq],Qdr l n⟩
def Qjh {l m:L_ Int}(h:l.Perm m):Ex l=Ex m:=by
 rw[ZZ,ZZ]
 refine List.Perm.eq_of_pairwise (le:=λx y:Int=>x<=y) ?_ ?_ ?_ ?_
 ·intro a b _ _ D h2;omega
 ·exact(List.pairwise_mergeSort (le:=λx y:Int=>decide (x<=y)) (λa b c D h2=>by simp at *;omega) (λa b=>by simp;omega) l).imp λh=>by simpa using h
 ·exact(List.pairwise_mergeSort (le:=λx y:Int=>decide (x<=y)) (λa b c D h2=>by simp at *;omega) (λa b=>by simp;omega) m).imp λh=>by simpa using h
 exact((List.mergeSort_perm l _).trans h).trans (List.mergeSort_perm m _).symm
def spZ : L_ Int:=(List.range 256).map λc=>if Lib.isSp (UInt8.ofNat c)then 1 else 0
def Qiq {P:Program}{W:World}(h:Lib.TabIs P W "strings.asciiSpace" .u8 spZ):NK P (fun k=>k<W.heap.size) W:=fun g hg=>by
 have hc:∀c:Nat,c<256->W.cell? ⟨g,c,none⟩=some (.int .u8 (if Lib.isSp (UInt8.ofNat c)then 1 else 0)):=λc hc=>by
  rw[h.cell hg c (by simp only[spZ,BW,Qcl];exact hc)]
  simp[spZ,List.getD,hc]
 have h0:g<W.heap.size:=by
  have:=hc 0 (by decide)
  apply Nat.lt_of_not_le
  intro hle
  have e:W.heap[g]? = none:=Array.getElem?_eq_none hle
  simp[World.cell?,e]at this
 exact⟨h0,h0,hc⟩
def Qbv {P:Program}{W:World}{l r:L_ (String×DataW Unit)}{g:Nat}{t e:TypeId}(n:Nat)(hl:l.drop n=("strings.asciiSpace",Lib.tabData .u8 spZ)::r)(hp:(l.all fun x=>x.2.handleName?.isNone)=true)
  (hg:P.globalNamed "strings.asciiSpace" = some g) (hty:(P.globals[g]?).map (·.type)=some t) (ht:P.underlying t=some (.array 256 e)) (he:P.underlying e=some (.int .u8)) (hce:P.cellsOf e=1) (hct:P.cellsOf t=256)
  (h:laidMetH P l W):NK P (λk=>k<W.heap.size) W:=by
 rw[MakeChecks.laidMetH_plain _ _ _ hp]at h
 have key:∀(n:Nat) (l:L_ (String×DataW Unit)),laidMet P l W->laidMet P (l.drop n) W:=by
  intro n
  induction n with
  | zero=>intro l h;exact h
  | succ n ih=>
   intro l h
   cases l with
   | nil=>exact h
   | cons x l=>exact ih l h.tail
 have h2:=key n l h
 rw[hl]at h2
 exact Qiq (Lib.tabIs_of_head hg hty ht he hce hct h2)
variable {H:Type}{P:Program}
def Sz (P:Program)(t:Nat)(d:DataW H):Prop:=∀n∈d.weights P t,n<=reachBytes
def Sz.all {y:L_ TypeId}{ds:L_ (DataW H)}(h:(DataW.weightsEach P y ds).all (·<=reachBytes)=true){j:Nat}{t:Nat}{d:DataW H}(ht:y[j]? = some t)(D:ds[j]? = some d):Sz P t d:=λn hn=>by
 have:=XE.1 h n (DataW.weights_mem_each ht D n hn)
 simpa using this
def Sz.field {t:Nat}{fs:Array Field}(hu:P.underlying t=some (.struct fs)){ds:L_ (DataW H)}(h:Sz P t (.agg ds)){j:Nat}{u:Nat}{d:DataW H}(ht:(fs.toList.map (·.type))[j]? = some u)(y:ds[j]? = some d):Sz P u d:=λn D=>h n (by
 simp only[DataW.weights,hu]
 exact DataW.weights_mem_each ht y n D)
def Qiy {e:Nat}{d:DataW H}{n:Nat}(y:n∈d.weights P e):∀{ds:L_ (DataW H)},d∈ds->n∈DataW.weightsAll P e ds
 | [],h=>by cases h
 | x::ds,h=>by
  simp only[DataW.weightsAll,Ep]
  rcases XQ.1 h with rfl | h
  ·exact .inl y
  exact .inr (Qiy y h)
def szL {α:Type}{t e:Nat}{ok sz:α->Prop}{l:L_ α}{d:DataW H}(hu:P.underlying t=some (.slice e))(h:wfL (λx d=>ok x/\(Sz P e d->sz x)) l d):YW ok l/\(Sz P t d->l.length*P.bytesOf e<=reachBytes/\∀x∈l,sz x):=by
 obtain⟨h1,⟨rfl,rfl⟩|⟨es,sp,rfl,hl,hw⟩⟩:=h
 ·exact⟨⟨h1,λx h=>by cases h⟩,λ_=>⟨by simp,λx h=>by cases h⟩⟩
 have key:∀x∈l,∃d∈es,ok x/\(Sz P e d->sz x):=λx D=>by
  obtain⟨i,hi,rfl⟩:=BX.1 D
  have y:i<es.length:=by omega
  exact⟨es[i],XW y,hw i _ _ (QR hi) (QR y)⟩
 refine⟨⟨h1,λx D=>by obtain⟨_,_,h,_⟩:=key x D;exact h⟩,λhs=>⟨?_,λx D=>?_⟩⟩
 ·have:=hs ((es.length+sp.length)*P.bytesOf e) (by simp only[DataW.weights,hu];exact YF)
  rw[<-hl]
  exact Kj (JA _ (Nat.le_add_right _ _)) this
 obtain⟨d,hd,_,h⟩:=key x D
 refine h λn hn=>hs n ?_
 simp only[DataW.weights,hu]
 exact Jz _ (SZ _ (Qiy hn hd))
def Vh {α:Type}{t e b:Nat}{ok:α->Prop}{l:L_ α}{d:DataW H}(hu:P.underlying t=some (.slice e))(hb:P.bytesOf e=b)(h:wfL (λx _=>ok x) l d):YW ok l/\(Sz P t d->l.length*b<=reachBytes):=by
 subst hb
 have:=szL (P:=P) (t:=t) (e:=e) (sz:=λ_=>True) hu (show wfL (λx d=>ok x/\(Sz P e d->True)) l d from⟨h.1,h.2.imp id λ⟨es,sp,y,D,h3⟩=>⟨es,sp,y,D,λi x e a b=>⟨h3 i x e a b,λ_=>trivial⟩⟩⟩)
 exact⟨this.1,λhs=>(this.2 hs).1⟩
def Qds {α:Type}{t e b:Nat}{ok sz:α->Prop}{l:L_ α}{d:DataW H}(D:P.underlying t=some (.slice e))(y:P.bytesOf e=b)(h:wfL (λx d=>ok x/\(Sz P e d->sz x)) l d):YW ok l/\(Sz P t d->l.length*b<=reachBytes/\∀x∈l,sz x):=by
 subst y;exact szL D h
section
variable {κ α:Type}[DecidableEq κ]
def Qey {π:Type}{L:L_ (Nat×π)}{h:Array Nat}{y:Nat}:YG L (h.push y)=(YG L h).filter λq=>!(q.1==y):=by
 unfold YG
 rw[List.filter_filter]
 apply List.filter_congr
 intro q _
 rw[Zw]
 simp[Array.mem_push]
 constructor
 ·rintro ⟨D,h2⟩;exact⟨h2,D⟩
 rintro ⟨D,h2⟩;exact⟨h2,D⟩
structure PY (L L':List (Nat×(κ×α))) (seen:Array Nat):Prop where
 keys:L'.map (·.2.1)=L.map (·.2.1)
 left:YG L' seen=YG L seen
def PY.refl {L:L_ (Nat×(κ×α))}{h:Array Nat}:PY L L h:=⟨rfl,rfl⟩
def PY.push {L L':L_ (Nat×(κ×α))}{D:Array Nat}(h:PY L L' D)(y:Nat):PY L L' (D.push y):=⟨h.keys,by rw[Qey,Qey,h.left]⟩
def PY.nil {L D:L_ (Nat×(κ×α))}{y:Array Nat}(h:PY L D y)(hq:YG D y=[]):YG L y=[]:=by rw[<-h.left];exact hq
def PY.mem {L D:L_ (Nat×(κ×α))}{y:Array Nat}(h:PY L D y){q:Nat×(κ×α)}(hq:q∈YG L y):q∈YG D y:=by rw[h.left];exact hq
end
section
variable {P:Program}{C:XA}{σ:St}{o:Oper}{κ α:Type}[DecidableEq κ]
end
def AK.know {P:Program}{C:XA}{Q:Exit->St->Prop}{σ:St}{ks:L_ Fr}{pt:Pt}{p:Prop}(h:∀a w,R C σ a w->p)(k:p->AK P C Q pt ks σ):AK P C Q pt ks σ:=
 AK.weakenE (ι:=PLift p) (f:=λ_=>σ) (λa w y=>⟨⟨h a w y⟩,y⟩) λi=>k i.down
def AK.openMapK {P:Program}{C:XA}{Q:Exit->St->Prop}{σ:St}{ks:L_ Fr}{κ α:Type}[DecidableEq κ]{K:TypeId}{e:κ->V}{val:κ->Value}{f:α->V}{lt:L_ (κ×α)}{b:Nat}{pt:Pt}(hk:Eu P K e val)(hb:look σ.hp b=some (.map (QG e f lt)))
  (h:∀D y (L:L_ (Nat×(κ×α))),(L.map (·.1)).Nodup->(L.map (·.2.1)).Nodup->(L.map Prod.snd).Perm lt->AK P C Q pt ks (σ.set b (.mapX D y (CZ e f L) (QG e f lt)))):AK P C Q pt ks σ:=by
 refine AK.openMap hk hb λD y L h1 h2=>AK.know (p:=(lt.map Prod.fst).Nodup) (λa w ⟨φ,hr⟩=>?_) λhn=>h D y L h1 ?_ h2
 ·rcases hr.heap b _ (St.look_set_same _ _ _)with⟨B,hB,_,M,_,_,_,g3,_⟩|⟨_,e'⟩
  ·exact(Mz hk.einj).1 g3
  exact e'.elim
 have:=(h2.map Prod.fst).nodup_iff.2 hn
 rw[OB]at this
 exact this
def V.lo1 : V->V
 | .sln _ z rs=>.sl z rs
 | v=>v
def V.lo2 : V->V
 | .sln _ z rs=>.sl z (rs.map (List.map V.lo1))
 | v=>v
def V.lo3 : V->V
 | .tup h=>.tup (h.map V.lo2)
 | v=>v.lo2
def V.lo1_one (v:V):v.lo1.one=v.one:=by cases v<;>rfl
def Xy.lo {I:Nat->Prop}{w:World}{x:Value}{v:V}(d:Xy I w x v):Xy I w x v.lo1:=by cases v<;>first | exact d | exact d.lo1
def Er.lo {z:Nat}{r:L_ V}(h:Er z r):Er z (r.map V.lo1):=⟨by simpa using h.1,λv D=>by obtain⟨u,y,rfl⟩:=Yl.1 D;rw[V.lo1_one];exact h.2 u y⟩
def Xy.loR {I:Nat->Prop}{w:World}{x:Value}{z:Nat}{rs:L_ (L_ V)}(d:Xy I w x (.sl z rs)):Xy I w x (.sl z (rs.map (List.map V.lo1))):=by
 cases d with
 | sl0=>exact .sl0 _ _ _
 | sl b off len cap _ _ c hI hl hc hr h hd=>
  refine .sl b off len cap z _ c hI (by simpa using hl) hc (λr y=>?_) h (λi r hi j v hj=>?_)
  ·obtain⟨s,D,rfl⟩:=Yl.1 y;exact(hr s D).lo
  rw[Yb]at hi
  obtain⟨s,D,rfl⟩:=XZ.1 hi
  rw[Yb]at hj
  obtain⟨u,hu,rfl⟩:=XZ.1 hj
  exact(hd i s D j u hu).lo
def QO.lo2 {φ:Nat->O_ Xa}{I:Nat->Prop}{w:World}{x:Value}{v:V}(d:QO φ I w x v):QO φ I w x v.lo2:=by
 cases v with
 | sln β z rs=>cases d with | dat d=>exact .dat d.lo1.loR
 | _=>exact d
def QO.lo3 {φ:Nat->O_ Xa}{I:Nat->Prop}{w:World}{x:Value}{v:V}(d:QO φ I w x v):QO φ I w x v.lo3:=by
 cases v with
 | tup cs=>
  obtain⟨xs,rfl,hs,hr⟩:=d.tup_inv
  refine .tup xs _ (by simpa using hs) λj y u hy D=>?_
  rw[Yb]at D
  obtain⟨s,h,rfl⟩:=XZ.1 D
  exact(hr j y s hy h).lo2
 | sln β z rs=>exact d.lo2
 | _=>exact d
def JG.lo {P:Program}{f:FuncId}{us:L_ V}{hs:H_}{r r':V}(h:JG 0 P f us hs (Gives r []))(e:r.lo3=r'):QX P f us hs (Gives r' []):=by
 subst e
 exact λS φ w y hi hG=>(h S φ w y (Nat.zero_le _) hi hG).mono λe w' ⟨x,v,D,φ',h1,⟨h2,_⟩,ho⟩=>by
  subst h2
  exact⟨x,v.lo3,D,φ',h1,⟨rfl,λc ob h=>by cases h⟩,{ ho with rep:=ho.rep.lo3 }⟩
section
variable {P:Program}{C:XA}{Q:Exit->St->Prop}{σ σ':St}{ks:L_ Fr}{ops:Array Oper}{o:Oper}{l:L_ Oper}
def Qml {ι:Type _}(P:Program)(C:XA)(o:Oper)(σ:St)(f:ι->St):Prop:=
 ∀a w,R C σ a w->∀(next:Act->World->Prop) (Q:Exit->Act->World->Prop),(∀i h w',R C (f i) h w'->next h w')->o.wpIn C.F 0 P a w next Q
def Pl (I:Nat->Prop)(w:World)(β k:Nat):Prop:=I k/\β<=k/\∃h E,w.heap[k]? = some (.cells h E (0,0))
def Qez (β:Nat)(r:V)(h:Value->V)(v:V):Prop:=∀(φ:Nat->O_ Xa) (I:Nat->Prop) (w:World) (y:Value),QO φ I w y r->∃x,Xy (Pl I w β) w x v/\∀φ' I' w',QO φ' I' w' y (h x)
def V.new1 (β:Nat):V->Prop
 | .sln γ _ rs=>γ=β/\∀r∈rs,∀v∈r,v.sca=true
 | v=>v.sca=true
def Xy.new1 {β:Nat}{I:Nat->Prop}{w:World}{x:Value}{v:V}(d:Xy I w x v)(h:v.new1 β):Xy (Pl I w β) w x v.lo1:=by
 cases v with
 | sln γ z rs=>
  obtain⟨rfl,h2⟩:=h
  refine Xy.lo1 (β:=γ) ?_
  cases d with
  | sln0=>exact .sln0 _ _ _ _
  | sln _ b off len cap _ _ cs E hβ hI hl hc hr y D hd=>exact .sln γ b off len cap z rs cs E hβ ⟨hI,hβ,cs,E,y⟩ hl hc hr y D λi r hi j v hj=>(hd i r hi j v hj).sca (h2 r (XU hi) v (XU hj))
 | _=>first | exact d.sca h | cases h
def Xy.new2 {β z:Nat}{rs:L_ (L_ V)}{I:Nat->Prop}{w:World}{x:Value}(d:Xy I w x (.sln β z rs))(h:∀r∈rs,∀v∈r,v.new1 β):Xy (Pl I w β) w x (.sl z (rs.map (List.map V.lo1))):=by
 cases d with
 | sln0=>exact .sl0 _ _ _
 | sln _ b off len cap _ _ cs E hβ hI hl hc hr y hsz hd=>
  refine .sl b off len cap z _ (λj=>cs.getD (off+j) undef) ⟨hI,hβ,cs,E,y⟩ (by simpa using hl) hc (λr hr'=>?_) (λj hj=>?_) (λi r hi j v hj=>?_)
  ·obtain⟨s,D,rfl⟩:=Yl.1 hr';exact(hr s D).lo
  ·have:off+j<cs.size:=by omega
   simp[World.cell?,y,Array.getD,this]
  rw[Yb]at hi
  obtain⟨s,D,rfl⟩:=XZ.1 hi
  rw[Yb]at hj
  obtain⟨u,hu,rfl⟩:=XZ.1 hj
  exact(hd i s D j u hu).new1 (h s (XU D) u (XU hu))
def Qez.one {β z:Nat}{rs:L_ (L_ V)}(h:∀r∈rs,∀v∈r,v.new1 β):Qez β (.sln β z rs) V.lit (.sl z (rs.map (List.map V.lo1))):=λφ I w y D=>by
 cases D with
 | dat d=>exact⟨y,d.new2 h,λ_ _ _=>.dat (.lit _)⟩
def Qez.two {β z:Nat}{rs:L_ (L_ V)}{e:V}(h:∀r∈rs,∀v∈r,v.new1 β)(he:e.sca=true):Qez β (.tup [.sln β z rs,e]) (λx=>.tup [.lit x,e]) (.sl z (rs.map (List.map V.lo1))):=λφ I w y hy=>by
 obtain⟨xs,rfl,hs,hr⟩:=hy.tup_inv
 have h0:0<xs.size:=by rw[hs];simp
 have h1:1<xs.size:=by rw[hs];simp
 have key:∀y,QO φ I w y (.sln β z rs)->Xy (Pl I w β) w y (.sl z (rs.map (List.map V.lo1))):=λy d=>by
  cases d with
  | dat d=>exact d.new2 h
 refine⟨xs[0],key _ (hr 0 _ _ (GZ h0) rfl),λφ' I' w'=>.tup xs _ hs λj y v hy D=>?_⟩
 ·match j,D with
  | 0,D=>cases D;rw[GZ h0]at hy;cases hy;exact .dat (.lit _)
  | 1,D=>cases D;exact(hr 1 y _ hy rfl).sca he
def QkY (β:Nat):L_ V->Prop
 | []=>True
 | v::r=>v.new1 β/\QkY β r
def QkY.get {β:Nat}:∀{r:L_ V},QkY β r->∀v∈r,v.new1 β
 | u::r,h,v,y=>by
  rcases XQ.1 y with rfl | y
  ·exact h.1
  exact h.2.get v y
def Qml.thaw {f:FuncId}{d:Nat}{g:Bool}{vs us:L_ V}{rN:Nat->V}{rv:Value->V}{v:V}(hE:YU P C o σ f vs)(hd:o.dst=some d)(hn:B_ d C)(hpg:C.pg P)(hv:Lp σ.hp g vs us)
  (hc:∀β,JG β P f us [] (Gives (rN β) [])) (hT:∀β,Qez β (rN β) rv v) (hf:look σ.hp d=none):Qml P C o σ λx:Value=>(σ.set d (.nst x v)).put d (rv x):=by
 intro a w ⟨φ,hr⟩ next Q hnext
 refine⟨λ_ _=>trivial,?_⟩
 obtain⟨vals,hex,g1,g2⟩:=hE φ a w hr
 rw[VN hex,Oper.uponIn_enter]
 refine⟨(λh=>by cases h),VO ((hc w.heap.size _ _ w _ (YZ _) (Ins.of_viewsE hr g1 g2 hv) ((hr.glob hpg).mono λ_ h=>.inl h)).mono ?_)⟩
 rintro e w' ⟨y,v0,hs',φ',rfl,⟨rfl,_⟩,hout⟩
 obtain⟨x,hx,hrv⟩:=hT _ _ _ _ _ hout.rep
 rw[hd]
 have mem:∀k,k∈(List.range w'.heap.size).filter (λk=>@decide (w.heap.size<=k/\∃cs E,w'.heap[k]? = some (.cells cs E (0,0))) (Classical.propDecidable _))↔k<w'.heap.size/\w.heap.size<=k/\∃cs E,w'.heap[k]? = some (.cells cs E (0,0)):=λk=>by
  rw[Fq,Fs,@decide_eq_true_iff _ (Classical.propDecidable _)]
 generalize (List.range w'.heap.size).filter (λk=>@decide (w.heap.size<=k/\∃cs E,w'.heap[k]? = some (.cells cs E (0,0))) (Classical.propDecidable _))=L at mem
 cases L with
 | cons b more=>
  have hB:∀k,(⟨b,0,0,more,0⟩:Xa).has k↔k<w'.heap.size/\w.heap.size<=k/\∃cs E,w'.heap[k]? = some (.cells cs E (0,0)):=λk=>by
   rw[<-mem,XQ];exact Iff.rfl
  exact hnext x _ _ ⟨_,(hr.born (B:=⟨b,0,0,more,0⟩) (ob:=.nst x v) (C.slot hn) hf hout.os hout.tape hout.output hout.size (λk hk=>hout.kept k hk λ_ _ h=>by simp at h) (λk hk=>⟨((hB k).1 hk).2.1,((hB k).1 hk).1⟩)
   ⟨hx.mono λk hk=>⟨(hB k).2 ⟨hk.1.1,hk.2⟩,rfl⟩,λk hk=>((hB k).1 hk).2.2⟩).put (XP hn) (hrv _ _ _)⟩
 | nil=>
  have hnil:∀w2,Xy (λ_=>False) w2 x v:=λw2=>hx.mono λk hk=>by have:=(mem k).2 ⟨hk.1.1,hk.2⟩;cases this
  have D:=hr.called hout
  have hN:=D.none_of_look hf
  have hset:RR C φ (σ.set d (.nst x v)) a w':=by
   refine⟨D.os,D.tape,D.output,D.size,D.kept,D.inj,λo' B' hB'=>?_,D.lt,D.new,⟨D.stay.1,λo' ob' B1 hge ho' hB1=>D.stay.2 o' ob' B1 hge (by have:=C.slot hn;rwa[σ.look_set_other _ (by omega)]at ho') hB1⟩,D.tmps,D.defers,D.frame,λo' ob' ho'=>?_⟩
   ·by_cases e:o'=d
    ·subst e;exact⟨_,σ.look_set_same _ _⟩
    rw[σ.look_set_other _ (Ne.symm e)];exact D.dom o' B' hB'
   by_cases e:o'=d
   ·subst e;rw[σ.look_set_same]at ho';cases ho';exact .inr ⟨hN,hnil⟩
   rw[σ.look_set_other _ (Ne.symm e)]at ho';exact D.heap o' ob' ho'
  exact hnext x _ _ ⟨φ,hset.put (XP hn) (hrv _ _ _)⟩
end
def XN (A:Nat->Nat)(p:O_ Nat):V:=.lit (.pointer (p.map λk=>⟨A k,0,none⟩))
def Xw (A:Nat->Nat)(p:O_ Nat):L_ V:=[XN A p]
def JU (A:Nat->Nat)(off k:Nat):V:=.lit (.pointer (some ⟨A k,off,none⟩))
section
variable {P:Program}{C:XA}{σ:St}{o:Oper}{A:Nat->Nat}
def Qf.nilCheckP {d k:Nat}{p:O_ Nat}{x:Operand}(ho:o.op=.nilCheck x)(D:o.dst=some d)(hn:B_ d C)(y:σ.opd x=some (XN A p))(hp:p=some k):Qf P C o σ (σ.put d (JU A 0 k)):=by
 subst hp
 refine Qf.same D hn λφ a w h=>⟨a.eval x,?_,h.opd y⟩
 have:=(h.opd y).lit_inv
 simp[execOp,ho,this]
def Qf.fieldP {T f d k off n m:Nat}{x:Operand}(ho:o.op=.fieldAddr T x f)(h:o.dst=some d)(hn:B_ d C)(hx:σ.opd x=some (JU A off k))(D:FV P T f=some n)(hm:off+n=m):Qf P C o σ (σ.put d (JU A m k)):=by
 refine Qf.same h hn λφ a w hr=>?_
 subst hm
 have y:=(hr.opd hx).lit_inv
 refine⟨.pointer (some ⟨A k,off+n,none⟩),?_,.dat (.lit _)⟩
 simp only[execOp,ho,y,Xf,TZ D,Xl,Xx,Addr.add_lit]
def Qf.loadP {T d b k off z:Nat}{x:Operand}{rs:L_ (L_ V)}{r:L_ V}{v:V}(ho:o.op=.load T x)(hd:o.dst=some d)(hn:B_ d C)(hx:σ.opd x=some (JU A off k))
  (hb:look σ.hp b=some (.tbl A z rs)) (hg:Ea P T=some false) (D:rs[k]? = some r) (hv:r[off]? = some v):Qf P C o σ (σ.put d v):=by
 refine Qf.same hd hn λφ a w hr=>?_
 have he:=(hr.opd hx).lit_inv
 rcases hr.heap b _ hb with⟨B,hB,h1,h2,h3,h4⟩|⟨_,h⟩
 ·obtain⟨cs,E,e1,e2,e3⟩:=h4 k r D
  obtain⟨y,hy,hD⟩:=e3 off v hv
  refine⟨y,?_,.dat hD⟩
  have hc:w.cell? ⟨A k,off,none⟩=some y:=by simp[World.cell?,e1,hy]
  simp only[execOp,ho,he,Xf,CO hg hc,Xl,Xx]
 subst h;simp at D
def Qf.storeP {T b k off z:Nat}{x y:Operand}{rs rs':L_ (L_ V)}{r:L_ V}{v:V}(ho:o.op=.store T x y)(hd:o.dst=none)(hx:σ.opd x=some (JU A off k))
  (hb:look σ.hp b=some (.tbl A z rs)) (hr':rs[k]? = some r) (hlt:Nat.ble (off+1) z=true) (hy:σ.opd y=some v) (h1:v.one=true) (hdat:v.dat=true) (hs:UC P T=some 1) (he:rs.set k (r.set off v)=rs'):Qf P C o σ (σ.set b (.tbl A z rs')):=by
 refine Qf.skp λφ a w hr=>?_
 subst he
 have hev:=(hr.opd hx).lit_inv
 have hv:=hr.opd hy
 rcases hr.heap b _ hb with⟨B,hB,h⟩|⟨_,h⟩
 ·have hrep:=h
  obtain⟨a1,a2,a3,a4⟩:=h
  obtain⟨cs,E,e1,e2,e3⟩:=a4 k r hr'
  have hk:k<rs.length:=(Xe.1 hr').1
  have hoff:off<cs.size:=by rw[e2];exact JK hlt
  have hvc:v.cells=[v]:=by cases v<;>first | rfl | simp[V.one]at h1
  have hrl:r.length=z:=(a3 r (XU hr')).1
  have hc1:=(hv.oneCell h1).1
  have hrun:=TY (P:=P) (T:=T) (off:=off) (x:=a.eval y) hs (by rw[hc1];rfl) e1 (by omega) (hv.cells_one (.inl h1) (by rw[hvc];simp[h1]))
  rw[hc1]at hrun
  have hnl:(cs.toList.take off++[a.eval y]++cs.toList.drop (off+1)).toArray.size=z:=by simp;omega
  have D:∀j:Nat,(cs.toList.take off++[a.eval y]++cs.toList.drop (off+1)).toArray[j]? = if j=off then some (a.eval y)else cs[j]? := λj=>by
   rw[UA]
   by_cases hj:j<off
   ·rw[De,YL (by simp;omega),Jy,if_pos hj,if_neg (by omega)];simp
   by_cases hj2:j=off
   ·subst hj2
    rw[De,Jx (by simp;omega),if_pos rfl]
    have:j-(List.take j cs.toList).length=0:=by rw[KS];simp;omega
    rw[this];rfl
   rw[Jx (by simp;omega),Gf,if_neg hj2]
   simp only[JT,KS,DG,HG]
   rw[show off+1+(j-(min off cs.toList.length+(0+1)))=j by simp;omega];simp
  generalize hnc:(cs.toList.take off++[a.eval y]++cs.toList.drop (off+1)).toArray=nc at hnl D
  have hrun':(Instr.storeAt T (.pointer (some ⟨A k,off,none⟩)) (a.eval y)).run P w=.ok () (w.setRow (A k) nc):=by rw[<-hnc];exact hrun
  have hhas:B.has (A k):=(hrep.has _).2 ⟨k,hk,rfl⟩
  have hinj:∀i,i<rs.length->A i=A k->i=k:=λi hi e=>by
   have hnd:=a2;rw[a1]at hnd
   exact(List.getElem?_inj (by simpa using hi) hnd).1 (by rw[Yb,Yb,List.getElem?_range hi,List.getElem?_range hk];simp[e])
  have hI:∀j,Xj C φ w j->Xj C φ (w.setRow (A k) nc) j/\(w.setRow (A k) nc).heap[j]? = w.heap[j]? := λj hj=>⟨⟨by simpa using hj.1,hj.2⟩,setRow_other w _ j _ λe=>hj.2.2 b B hB (e▸hhas)⟩
  refine⟨w.setRow (A k) nc,φ,?_,?_⟩
  ·simp only[execOp,ho,hev,Xf,hrun',Xl,Xx]
  rw[hd]
  have:=hr.change hB (B':=B) ⟨rfl,rfl,rfl,rfl⟩ (λ_=>rfl) (ob:=.tbl A z (rs.set k (r.set off v))) (w':=w.setRow (A k) nc) rfl rfl rfl (by simp) (λj _ hne=>setRow_other w _ j _ λe=>hne (e▸hhas))
   (λj hj=>⟨by simpa using (hr.lt b B j hB hj).1,.inl hj⟩) (by
    rw[ZF hB]
    refine⟨by rw[ZA];exact a1,a2,λq hq=>?_,λi q hi=>?_⟩
    ·rcases ZB hq with hq | rfl
     ·exact a3 q hq
     obtain⟨b1,b2⟩:=a3 r (XU hr')
     refine⟨by rw[ZA];exact b1,λu hu=>?_⟩
     rcases ZB hu with hu | rfl
     ·exact b2 u hu
     exact h1
    by_cases e:i=k
    ·subst e
     rw[Mt hk]at hi;cases hi
     refine⟨nc,E,setRow_heap w _ cs _ E _ e1,hnl,λj u hu=>?_⟩
     by_cases ej:j=off
     ·subst ej
      rw[Mt (by omega)]at hu;cases hu
      exact⟨a.eval y,by rw[D,if_pos rfl],(hv.toDat hdat).mono hI⟩
     rw[Ms (Ne.symm ej)]at hu
     obtain⟨x',hx',hD⟩:=e3 j u hu
     exact⟨x',by rw[D,if_neg ej];exact hx',hD.mono hI⟩
    rw[Ms (Ne.symm e)]at hi
    obtain⟨cs2,E2,g1,g2,g3⟩:=a4 i q hi
    have hi':i<rs.length:=(Xe.1 hi).1
    exact⟨cs2,E2,(setRow_other w _ _ _ λe'=>e (hinj i hi' e')).trans g1,g2,λj u hu=>let ⟨x',hx',hD⟩:=g3 j u hu;⟨x',hx',hD.mono hI⟩⟩)
  rwa[ZF hB]at this
 subst h;simp at hr'
def QlN (t e:TypeId)(p:O_ Addr)(w:World)(h:P.underlying t=some (.pointer e)):(Op.equal t (.pointer p) (.pointer none)).run P w=.ok p.isNone w:=by
 show(Op.equalIn (9999+1) t (.pointer p) (.pointer none)).run P w=_
 rw[Op.equalIn]
 cases p<;>simp only[Xf,run_underlying h,Xl,Xx]<;>rfl
def Qf.neqNilP {T U d e:Nat}{x y:Operand}{p:O_ Nat}(ho:o.op=.binOp .neq T x y U)(hd:o.dst=some d)(hn:B_ d C)(hx:σ.opd x=some (XN A p))(hy:σ.opd y=some (.lit (.pointer none)))(hT:P.underlying T=some (.pointer e)):Qf P C o σ (σ.put d (.b p.isSome)):=by
 refine Qf.same hd hn λφ a w hr=>?_
 have h:=(hr.opd hx).lit_inv
 have D:=(hr.opd hy).lit_inv
 refine⟨.bool p.isSome,?_,.dat (.b _)⟩
 simp only[execOp,ho,h,D]
 simp[eqGuard,binOp,QlN _ _ _ w hT]
def Bg {κ α:Type}[DecidableEq κ](l:L_ (κ×α))(k:κ):L_ (κ×α):=l.filter λp=>!decide (p.1=k)
def Qf.delete {T U b K E:Nat}{x y:Operand}{κ α:Type}[DecidableEq κ]{e:κ->V}{val:κ->Value}{f:α->V}{l:L_ (κ×α)}{k:κ}(ho:o.op=.call { callee:=.builtin .delete,args:=#[x,y],argTypes:=#[T,U] })(hd:o.dst=none)
  (hx:σ.opd x=some (.map b)) (hb:look σ.hp b=some (.map (QG e f l))) (hy:σ.opd y=some (e k)) (hT:LJ P T=some (K,E)) (hk:Eu P K e val):
  Qf P C o σ (σ.set b (.map (QG e f (Bg l k)))):=by
 refine Qf.val λφ a w hr=>?_
 obtain⟨B,hB,he⟩:=(hr.opd hx).map_inv
 have hyv:a.eval y=val k:=hk.inv _ _ _ _ ((hr.opd hy).toDat (hk.edat k))
 obtain⟨D,hD,_⟩:=hk.d
 have hrep:=hr.block hB hb
 obtain⟨es,clock,h1,h2,h3,h4,h5,h6⟩:=Df.find hk hD hrep k
 obtain⟨es',clock',h1',_,_,_,r5,r6⟩:=hrep
 rw[h1]at h1';cases h1'
 have hlt:B.b<w.heap.size:=(hr.lt b B _ hB B.self).1
 have write:∀(es2:Array MapEntry) (l2:L_ (κ×α)),MapKept.Stamped es2 clock->(l2.map Prod.fst).Nodup->es2.size=l2.length->
   (∀x∈es2.toList,∃p∈l2,x.key=val p.1/\Xy (Xj C φ w) w x.val (f p.2))->(∀p∈l2,∃x∈es2.toList,x.key=val p.1/\Xy (Xj C φ w) w x.val (f p.2))->
   RR C φ (σ.set b (.map (QG e f l2))) a { w with heap:=w.heap.setIfInBounds B.b (.map es2 clock) }:=by
  intro es2 l2 a1 a2 a3 a4 a5
  have hI:∀k,Xj C φ w k->Xj C φ { w with heap:=w.heap.setIfInBounds B.b (.map es2 clock) } k/\(w.heap.setIfInBounds B.b (.map es2 clock))[k]? = w.heap[k]? := λk hk'=>
   ⟨⟨by simpa using hk'.1,hk'.2⟩,DL _ λe=>hk'.2.2 b B hB (.inl e)⟩
  refine hr.write hB rfl rfl rfl (by simp) (λk hne=>DL _ hne) ⟨es2,clock,by simp[hlt],a1,(Mz hk.einj).2 a2,by rw[a3,QG,BW],λx hx=>?_,λp hp=>?_⟩
  ·obtain⟨p,hp,e1,e2⟩:=a4 x hx
   exact⟨_,Yl.2 ⟨p,hp,rfl⟩,by rw[e1];exact hk.dat _ _ _,e2.mono hI⟩
  obtain⟨q,hq,rfl⟩:=Yl.1 hp
  obtain⟨x,hx,e1,e2⟩:=a5 q hq
  exact⟨x,hx,by rw[e1];exact hk.dat _ _ _,e2.mono hI⟩
 have old1:∀x∈es.toList,∃p∈l,x.key=val p.1/\Xy (Xj C φ w) w x.val (f p.2):=λx hx=>by
  obtain⟨p,hp,a1,a2⟩:=r5 x hx
  obtain⟨q,hq,rfl⟩:=Yl.1 hp
  exact⟨q,hq,hk.inv _ _ _ _ a1,a2⟩
 have old2:∀p∈l,∃x∈es.toList,x.key=val p.1/\Xy (Xj C φ w) w x.val (f p.2):=λp hp=>by
  obtain⟨x,hx,a1,a2⟩:=r6 _ (Yl.2 ⟨p,hp,rfl⟩)
  exact⟨x,hx,hk.inv _ _ _ _ a1,a2⟩
 have hnd:((Bg l k).map Prod.fst).Nodup:=(List.filter_sublist.map _).nodup h3
 rcases h6 with⟨g1,g2,g3⟩|⟨j,xx,v0,g1,g2,g3,g4,g5⟩
 ·refine⟨.tuple #[],{ w with heap:=w.heap.setIfInBounds B.b (.map es clock) },φ,?_,?_⟩
  ·simp[execOp,ho,he,hyv,resolve,invoke,builtin,Builtin.delete_,run_underlying (AD hT),MapKept.run_getObj_map h1,MapKept.run_checkKey hD h5,MapKept.run_findKey hD g2,MapKept.run_setObj_map _ h1]
  rw[hd]
  have hml:Bg l k=l:=List.filter_eq_self.2 λp hp=>by
   have:p.1≠k:=λe'=>by rw[show Xb l k=some p.2 from Vd h3 (by rw[<-e'];exact hp)]at g1;cases g1
   simp[this]
  rw[hml]
  exact write es l h2 h3 h4 old1 old2
 have hjlt:j<es.size:=(Ud.1 g3).1
 have hlist:(es.eraseIdxIfInBounds j).toList=es.toList.eraseIdx j:=by
  unfold Array.eraseIdxIfInBounds
  rw[dif_pos hjlt]
  simp
 have hkeyj:∀i x,es[i]? = some x->x.key=val k->i=j:=λi x hx hxk=>by
  have hnd:=h2.2.2
  have i1:(es.toList.map (·.key))[i]? = some (val k):=by simp[Yb,hx,hxk]
  have i2:(es.toList.map (·.key))[j]? = some (val k):=by simp[Yb,g3,g4]
  exact(List.getElem?_inj (by simpa using (Ud.1 hx).1) hnd).1 (i1.trans i2.symm)
 have hmem:∀x,x∈(es.eraseIdxIfInBounds j).toList↔x∈es.toList/\x.key≠val k:=λx=>by
  rw[hlist,List.mem_eraseIdx_iff_getElem?]
  constructor
  ·rintro ⟨i,hne,hi⟩
   have hi':es[i]? = some x:=by simpa using hi
   exact⟨XU hi,λe'=>hne (hkeyj i x hi' e')⟩
  rintro ⟨hx,hne⟩
  obtain⟨i,hi⟩:=Mv.1 hx
  refine⟨i,λe'=>?_,hi⟩
  subst e'
  rw[show es.toList[i]? = some xx by simpa using g3]at hi;cases hi
  exact hne g4
 have hdm:∀p,p∈Bg l k↔p∈l/\p.1≠k:=λp=>by simp[Bg,Fq]
 refine⟨.tuple #[],{ w with heap:=w.heap.setIfInBounds B.b (.map (es.eraseIdxIfInBounds j) clock) },φ,?_,?_⟩
 ·simp[execOp,ho,he,hyv,resolve,invoke,builtin,Builtin.delete_,run_underlying (AD hT),MapKept.run_getObj_map h1,MapKept.run_checkKey hD h5,MapKept.run_findKey hD g2,MapKept.run_setObj_map _ h1]
 rw[hd]
 refine write _ _ (MapKept.stamped_erase h2 j) hnd ?_ (λx hx=>?_) λp hp=>?_
 ·have e1:(es.eraseIdxIfInBounds j).size=es.size-1:=by
   have:=congrArg List.length hlist
   rw[List.length_eraseIdx,if_pos (by simpa using hjlt)]at this
   simpa only[Array.length_toList] using this
  have e2:(Bg l k).length+1=l.length:=by
   have hm:=ZO g1
   have:∀(l:L_ (κ×α)),(l.map Prod.fst).Nodup->(k,v0)∈l->(Bg l k).length+1=l.length:=by
    intro l
    induction l with
    | nil=>intro _ h;cases h
    | cons p l ih=>
     intro hn hm
     rw[GK,Ft]at hn
     rcases XQ.1 hm with rfl | hm
     ·have:Bg ((k,v0)::l) k=l:=by
       unfold Bg
       rw[Ah,if_neg (by simp)]
       exact List.filter_eq_self.2 λq hq=>by
        have:q.1≠k:=λe'=>hn.1 (Yl.2 ⟨q,hq,e'⟩)
        simp[this]
      rw[this];rfl
     have hne:p.1≠k:=λe'=>hn.1 (Yl.2 ⟨_,hm,e'.symm⟩)
     have:Bg (p::l) k=p::Bg l k:=by unfold Bg;rw[Ah,if_pos (by simp[hne])]
     rw[this,DG,ih hn.2 hm,DG]
   exact this l h3 hm
  rw[e1,h4];omega
 ·obtain⟨hx1,hx2⟩:=(hmem x).1 hx
  obtain⟨p,hp,a1,a2⟩:=old1 x hx1
  exact⟨p,(hdm p).2 ⟨hp,λe'=>hx2 (by rw[a1,e'])⟩,a1,a2⟩
 obtain⟨hp1,hp2⟩:=(hdm p).1 hp
 obtain⟨x,hx,a1,a2⟩:=old2 p hp1
 exact⟨x,(hmem x).2 ⟨hx,λe'=>hp2 (hk.inj _ _ (by rw[<-a1,e']))⟩,a1,a2⟩
def RR.grow {φ:Nat->O_ Xa}{a:Act}{w:World}(hr:RR C φ σ a w){b z T:Nat}{rs:L_ (L_ V)}{cs:L_ V}{ys:Array Value}(hb:look σ.hp b=some (.tbl A z rs))(hlt:b<617)(hz:cs.length=z)(h1:∀v∈cs,v.one=true)
  (hs:ys.size=z) (hc:∀(j:Nat) x v,ys[j]? = some x->cs[j]? = some v->Xy (Xj C φ w) w x v):
  ∃φ',RR C φ' ((σ.kill b).set b (.tbl (λi=>if i=rs.length then w.heap.size else A i) z (rs++[cs]))) a (w.alloc (.cells ys T)):=by
 generalize hA':(λi=>if i=rs.length then w.heap.size else A i)=A'
 have hnew:A' rs.length=w.heap.size:=by rw[<-hA'];simp
 have hold:∀i,i<rs.length->A' i=A i:=λi hi=>by rw[<-hA'];simp[Nat.ne_of_lt hi]
 have hrng:(List.range (rs++[cs]).length).map A'=(List.range rs.length).map A++[w.heap.size]:=by
  rw[JT,DG,HG,List.range_succ,List.map_append,GK,List.map_nil,hnew]
  congr 1
  exact OA λi hi=>hold i (Fs.1 hi)
 have hok:(∀r∈rs,Er z r)->∀r∈rs++[cs],Er z r:=λh r hr=>by
  rcases Ep.1 hr with hr | hr
  ·exact h r hr
  rw[HH.1 hr];exact⟨hz,h1⟩
 have row:∀{I:Nat->Prop},(∀k,Xj C φ w k->I k)->∃cs2 E,(w.alloc (.cells ys T)).heap[w.heap.size]? = some (.cells cs2 E (0,0))/\cs2.size=z/\∀(j:Nat) v,cs[j]? = some v->∃x,cs2[j]? = some x/\Xy I (w.alloc (.cells ys T)) x v:=λ{I} hI=>by
  refine⟨ys,T,heap_alloc_new w _,hs,λj v hv=>?_⟩
  have hj:j<ys.size:=by rw[hs,<-hz];exact(Xe.1 hv).1
  exact⟨ys[j],GZ hj,(hc j _ v (GZ hj) hv).mono λk D=>⟨hI k D,Below.heap_alloc w _ k D.1⟩⟩
 rcases hr.heap b _ hb with⟨B,hB,hrep⟩|⟨hn,h⟩
 ·let B':Xa:=⟨B.b,B.cap,B.z,B.more++[w.heap.size],B.off⟩
  have hhas:∀k,B'.has k↔B.has k\/k=w.heap.size:=λk=>by simp[Xa.has,B',or_assoc]
  have hI0:∀k,Xj C φ w k->Xj C (ext φ b B') (w.alloc (.cells ys T)) k:=λk D=>⟨by have:=D.1;simp;omega,D.2.1,λo B1 h1=>by
   by_cases e:o=b
   ·subst e;rw[XD]at h1;cases h1
    rw[hhas];rintro (h2 | h2)
    ·exact D.2.2 _ B hB h2
    have:=D.1;omega
   rw[Xq _ e]at h1;exact D.2.2 o B1 h1⟩
  have:=hr.change hB (B':=B') ⟨rfl,rfl,rfl,rfl⟩ (λh=>absurd hlt (by omega)) (ob:=.tbl A' z (rs++[cs])) (w':=w.alloc (.cells ys T)) rfl rfl rfl (by simp) (λk D _=>Below.heap_alloc w _ k D)
   (λk D=>by
    rcases(hhas k).1 D with h2 | h2
    ·exact⟨by have:=(hr.lt b B k hB h2).1;simp;omega,.inl h2⟩
    ·exact⟨by simp;omega,.inr (by omega)⟩) (by
    refine⟨by rw[hrng,<-hrep.1];rfl,?_,hok hrep.2.2.1,λi q hi=>?_⟩
    ·show((B.b::B.more)++[w.heap.size]).Nodup
     rw[List.nodup_append]
     refine⟨hrep.2.1,by simp,λx hx y hy=>?_⟩
     rw[HH.1 hy]
     have:=(hr.lt b B x hB (by unfold Xa.has;exact XQ.1 hx)).1
     omega
    rcases DH i rs.length with hlt' | hge
    ·rw[YL hlt']at hi
     obtain⟨cs2,E,g1,g2,g3⟩:=hrep.2.2.2 i q hi
     have hAi:A i<w.heap.size:=(hr.lt b B _ hB ((hrep.has _).2 ⟨i,hlt',rfl⟩)).1
     exact⟨cs2,E,by rw[hold i hlt',Below.heap_alloc w _ _ hAi];exact g1,g2,λj u hu=>let ⟨x',hx',hD⟩:=g3 j u hu;⟨x',hx',hD.mono λk D=>⟨hI0 k D,Below.heap_alloc w _ k D.1⟩⟩⟩
    have hi0:i=rs.length:=by have:=(Xe.1 hi).1;simp at this;omega
    subst hi0
    rw[Jx (YZ _),Nat.sub_self]at hi
    simp at hi;subst hi
    rw[hnew];exact row hI0)
  have h2:=this.reset b (.tbl A' z (rs++[cs])) ⟨_,St.look_set_same _ _ _⟩ (.inl ⟨B',XD _ _ _,this.block (XD _ _ _) (St.look_set_same _ _ _)⟩)
  rw[St.set_kill]at h2
  exact⟨_,h2⟩
 replace h:rs=[]:=h
 subst h
 have D:=hr.kill b
 have hnone:look (σ.kill b).hp b=none:=by
  cases h:look (σ.kill b).hp b with
  | none=>rfl
  | some ob=>exact absurd rfl (KO _ _ _ h).1
 have hdel:EP φ b=φ:=by
  funext k
  by_cases e:k=b
  ·subst e;rw[ZJ,hn]
  rw[Dy e]
 have hI1:=D.imm_alloc b 0 0 (.cells ys T) (ZJ _ _)
 refine⟨_,D.alloc (cap:=0) (z:=0) hnone hlt (ob:=.tbl A' z ([]++[cs])) (obj:=.cells ys T) ⟨?_,by simp,hok (by simp),λi q hi=>?_⟩⟩
 ·rw[hrng];rfl
 have hi0:i=0:=by have:=(Xe.1 hi).1;simp at this;omega
 subst hi0
 simp at hi;subst hi
 have:A' 0=w.heap.size:=hnew
 rw[this]
 exact row λk hk'=>(hI1 k (by rw[hdel];exact hk')).1
def AK.boxP {Q:Exit->St->Prop}{ops:Array Oper}{rest:L_ Oper}{ks:L_ Fr}{T d b z:Nat}{x:Operand}{n:Nat}{y:L_ V}{rs rsN:L_ (L_ V)}(hg:o.guard=none)(ho:o.op=.box T x)(hd:o.dst=some d)(hn:B_ d C)(hx:σ.opd x=some (.agg y))
  (hb:look σ.hp b=some (.tbl A z rs)) (D:Nat.ble 617 b=false) (hz:Nat.beq y.length z=true) (h1:y.all V.one=true) (h2:y.all V.dat=true) (hrn:rs.length=n) (hr2:rs++[y]=rsN)
  (k:∀A':Nat->Nat,(∀i,i<n->A' i=A i)->AK P C Q (.o ops rest) ks (((σ.kill b).set b (.tbl A' z rsN)).put d (XN A' (some n)))):AK P C Q (.o ops (o::rest)) ks σ:=by
 subst hrn hr2
 intro a w ⟨φ,hr⟩
 simp only[wpListIn,Region.wanted,hg,if_true]
 refine⟨λ_ _=>trivial,?_⟩
 have hv:=hr.opd hx
 obtain⟨hs,hc⟩:=hv.cells (.inr ⟨_,rfl⟩)
 have hex:(execOp a.eval o).run P w=.ok (.value (.pointer (some ⟨w.heap.size,0,none⟩))) (w.alloc (.cells (a.eval x).cells T)):=by simp[execOp,ho,Instr.box,newVar,newRow]
 rw[Qbd hex]
 rw[XE]at h1 h2
 have hz':=YE hz
 have hlt':b<617:=by
  rcases DH b 617 with h | h
  ·exact h
  rw[PV h]at D;cases D
 obtain⟨φ',hr'⟩:=hr.grow (T:=T) (ys:=(a.eval x).cells) hb hlt' hz' h1 (by rw[hs];exact hz') λj x' v hx' hv'=>(hc j x' v hx' hv').toDat (h2 v (XU hv'))
 refine k (λi=>if i=rs.length then w.heap.size else A i) (λi hi=>by simp[Nat.ne_of_lt hi]) _ _ ⟨φ',?_⟩
 rw[hd]
 refine hr'.put (XP hn) ?_
 have:(XN (λi=>if i=rs.length then w.heap.size else A i) (some rs.length))=.lit (.pointer (some ⟨w.heap.size,0,none⟩)):=by simp[XN]
 rw[this]
 exact .dat (.lit _)
def AK.newTbl {Q:Exit->St->Prop}{pt:Pt}{ks:L_ Fr}(b z:Nat)(A:Nat->Nat)(hb:look σ.hp b=none)(D:Nat.ble 617 b=false)(k:AK P C Q pt ks (σ.set b (.tbl A z []))):AK P C Q pt ks σ:=by
 have hlt':b<617:=by
  rcases DH b 617 with h | h
  ·exact h
  rw[PV h]at D;cases D
 refine AK.weaken (λa w ⟨φ,h⟩=>⟨φ,?_⟩) k
 have hn:=h.none_of_look hb
 refine⟨h.os,h.tape,h.output,h.size,h.kept,h.inj,?_,h.lt,h.new,⟨h.stay.1,λo ob B hge ho hB=>h.stay.2 o ob B hge (by rwa[σ.look_set_other _ (by omega)]at ho) hB⟩,h.tmps,h.defers,h.frame,?_⟩
 ·intro o B hB
  by_cases e:o=b
  ·subst e;exact⟨_,σ.look_set_same _ _⟩
  obtain⟨ob,h1⟩:=h.dom o B hB;exact⟨ob,by rw[σ.look_set_other _ (Ne.symm e)];exact h1⟩
 intro o ob y
 by_cases e:o=b
 ·subst e;rw[σ.look_set_same]at y;cases y;exact .inr ⟨hn,rfl⟩
 rw[σ.look_set_other _ (Ne.symm e)]at y;exact h.heap o ob y
def RK (n:Nat)(p:O_ Nat):Bool:=match p with
 | some k=>decide (k<n)
 | none=>true
def Qiz {y:Nat->Nat}{n:Nat}{p:O_ Nat}(h:∀i,i<n->y i=A i)(hp:RK n p=true):XN A p=XN y p:=by
 cases p with
 | none=>rfl
 | some k=>simp only[RK,QM]at hp;simp[XN,h k hp]
def QlO {y:Nat->Nat}{n:Nat}{l:L_ (O_ Nat)}(h:∀i,i<n->y i=A i)(D:l.all (RK n)=true):l.map (Xw A)=l.map (Xw y):=by
 rw[XE]at D
 exact OA λp hp=>by rw[Xw,Xw,Qiz h (D p hp)]
def QlP {κ:Type}{e:κ->V}{y:Nat->Nat}{n:Nat}{l:L_ (κ×O_ Nat)}(h:∀i,i<n->y i=A i)(D:l.all (λq=>RK n q.2)=true):QG e (XN A) l=QG e (XN y) l:=by
 rw[XE]at D
 exact OA λp hp=>by rw[Qiz h (D p hp)]
end
end Go.Vm
namespace Go.Vm
open Go Go.RowKit Go.Shelf Go.Lib Go.Proofs
def Lq {P:Program}(w:World)(dT sT ty y:TypeId)(g o dLen dCap:Nat)(a:Addr)(sLen sCap z m:Nat)(h:Array Value)(t:TypeId)(D:L_ Value)
  (hu:P.underlying dT=some (.slice y)) (hs:(P.info? y).map (·.size)=some z)
  (hg:w.heap[g]? = some (.cells h t (0,0))) (hm:Nat.min sLen dLen=m) (hn:D.length=m*z)
  (hsrc:∀(j:Nat) v,D[j]? = some v->w.cell? (a.add j)=some v) (hfit:o+D.length<=h.size) (h1:∀v∈D,v.oneCell'=true):
  (Builtin.copy_ #[dT,sT] ty #[.slice (some ⟨g,o,none⟩) dLen dCap,.slice (some a) sLen sCap]).run P w =
   .ok (goInt m) (w.setRow g (h.toList.take o++D++h.toList.drop (o+D.length)).toArray):=by
 have hl:=run_loadCells_list (P:=P) w a D hsrc
 have hst:=run_storeCells_at P g o t D 0 h w hg (by simpa using hfit) h1
 cases hq:P.info? y with
 | none=>simp[hq]at hs
 | some i=>
  have hi:i.size=z:=by simpa[hq] using hs
  simp[Builtin.copy_,run_underlying hu,Builtin.lenOf,Builtin.firstCells,sizeOf,typeInfo,hq,hi,hm,<-hn,hl,hst]
noncomputable def Qmm (ρ:Ren)(nm:String):Func:={ Body2.n22 ρ with name:=nm }
noncomputable def ovF (ρ:Ren)(nm:String):Func:={ Body2.n29 ρ with name:=nm }
def Qaa (ρ:Ren)(nm:String):(Qmm ρ nm).ntmps=95:=rfl
structure Qbw (P:Program) (ρ:Ren) (n1 n2:String) (E z by_:Nat) (zv:Value):Prop where
 mixed:P.follows .mixedOrders=true
 f22:P.funcs[ρ.f 22]? = some (Qmm ρ n1)
 f29:P.funcs[ρ.f 29]? = some (ovF ρ n2)
 nm:(n2 == "runtime.NumGoroutine")=false
 nx:Extern.findNext (ovF ρ n2)=none
 fd:Extern.find (ovF ρ n2)=some (Extern.SlicesOverlaps.overlaps #[(ρ.t 24),(ρ.t 24)] #[(ρ.t 4)])
 t0:P.underlying (ρ.t 0)=some (TypeDesc.tuple #[])
 t3:P.underlying (ρ.t 3)=some (TypeDesc.int IntKind.i64)
 t4:P.underlying (ρ.t 4)=some (TypeDesc.bool)
 t24:P.underlying (ρ.t 24)=some (TypeDesc.slice E)
 zE:∀w,(Go.sizeOf E).run P w=.ok z w
 iE:(P.info? E).map (λi=>(i.zero,i.size,i.bytes))=some (some zv,z,by_)
 zc:zv.cells.size=z
 z0:0<z
 small:by_<=32768
variable {P:Program}{ρ:Ren}{n1 n2:String}{E z by_:Nat}{zv:Value}
def OV (l:L_ Value)(o:Nat)(vs:L_ Value)(h:o+vs.length<=l.length)(k:Nat):
  (l.take o++vs++l.drop (o+vs.length))[k]? = if k<o then l[k]? else if k<o+vs.length then vs[k-o]? else l[k]? := by
 by_cases y:k<o
 ·rw[if_pos y,De,YL (by simp;omega),Jy,if_pos y]
 rw[if_neg y]
 by_cases D:k<o+vs.length
 ·rw[if_pos D,YL (by simp;omega),Jx (by simp;omega)];congr 1;simp;omega
 rw[if_neg D,Jx (by simp;omega),Gf];congr 1;simp;omega
def Cx (l:L_ Value)(o:Nat)(vs:L_ Value)(h:o+vs.length<=l.length):(l.take o++vs++l.drop (o+vs.length)).length=l.length:=by simp;omega
set_option maxHeartbeats 4000000 in
set_option maxRecDepth 615 in
def Qj1 (L:Qbw P ρ n1 n2 E z by_ zv)(b off n c i vb voff vc:Nat)(y vcur:Array Value)(Eb Ev:TypeId)(cs vs:L_ Value)(w:World)(hi:i<n)(hroom:n+1<=c)(hn32:n+1<=4294967296)(hg:w.heap[b]? = some (.cells y Eb (0,0)))
  (hfit:off+c*z<=y.size) (hcl:cs.length=n*z) (hcs:∀(j:Nat) v,cs[j]? = some v->y[off+j]? = some v) (h1c:∀v∈cs,v.oneCell'=true) (hvl:vs.length=z) (hvg:w.heap[vb]? = some (.cells vcur Ev (0,0)))
  (hvs:∀(j:Nat) v,vs[j]? = some v->vcur[voff+j]? = some v) (hvb:vb≠b) (h1v:∀v∈vs,v.oneCell'=true):
  Calls P (ρ.f 22) #[.slice (some ⟨b,off,none⟩) n c,.int .i64 i,.slice (some ⟨vb,voff,none⟩) 1 vc] w λe w'=>
   e=.returned (.slice (some ⟨b,off,none⟩) (n+1) c)/\w'.os=w.os/\w'.tape=w.tape/\w'.output=w.output/\w'.heap.size=w.heap.size/\(∀k,k≠b->w'.heap[k]? = w.heap[k]?)/\
   ∃D:Array Value,w'.heap[b]? = some (.cells D Eb (0,0))/\D.size=y.size/\∀(j:Nat) v,(cs.take (i*z)++vs++cs.drop (i*z))[j]? = some v->D[off+j]? = some v:=by
 have t0:=L.t0;have t3:=L.t3;have t4:=L.t4;have t24:=L.t24
 have u0:=run_underlying L.t0;have u3:=run_underlying L.t3;have u4:=run_underlying L.t4;have u24:=run_underlying L.t24
 have zE:=L.zE
 have mixed:=L.mixed
 obtain⟨i0,hi0,hz0,hzs,hzb⟩:=info_parts L.iE
 have hsz:(P.info? E).map (·.size)=some z:=by rw[hi0];simp[hzs]
 have hzp:=L.z0
 have hnz:n*z+z<=c*z:=by have:=JA z hroom;rwa[Jf,Mx]at this
 have hin:(i+1)*z<=n*z:=JA z hi
 have hi1:(i+1)*z=i*z+z:=by rw[Jf,Mx]
 have hov:∀lb cb,(callFunc (ρ.f 29) #[.slice (some ⟨vb,voff,none⟩) 1 vc,.slice (some ⟨b,off+(i*z+z),none⟩) lb cb]).run P w=.ok (.value (.bool false)) w:=λlb cb=>by
  rw[run_callFunc_extern L.f29 L.nm rfl L.nx L.fd,
   Lib.run_overlaps_apart w (ρ.t 24) (ρ.t 4) E L.t24 z L.zE ⟨vb,voff,none⟩ ⟨b,off+(i*z+z),none⟩ 1 vc lb cb hvb Ev Eb vcur.size y.size (by simp[World.shape?,hvg]) (by simp[World.shape?,hg]) (by omega) (by simp[World.frozen?,hvg]) (by simp[World.frozen?,hvg])]
  rfl
 have hz1:¬((1:Int)=0):=by omega
 have hz2:¬((i:Int)=(n:Int)):=by omega
 have hdl:(cs.drop (i*z)).length=(n-i)*z:=by rw[Fp,hcl,Nat.sub_mul]
 have hw1:IntKind.i64.wrap ((i:Int)+1)=(i:Int)+1:=by rw[IntKind.wrap_i64];omega
 have hw2:IntKind.i64.wrap ((n:Int)+1)=(n:Int)+1:=by rw[IntKind.wrap_i64];omega
 have hb0:(0:Int)<=(i:Int):=by omega
 have hb1:(0:Int)<=(i:Int)+1:=by omega
 have hb5:(0:Int)<=(n:Int)+1:=by omega
 have hin':i<=n:=by omega
 have htn:((i:Int)+1).toNat=i+1:=by omega
 have htn2:((n:Int)+1).toNat=n+1:=by omega
 have hb2:¬(c=i+1):=by omega
 have hb3:(i:Int)<=(n:Int)+1:=by omega
 have hb4:¬(c=i):=by omega
 have hb6:(i:Int)+1<=(n:Int)+1:=by omega
 have hb7:¬((c:Int)<(n:Int)+1):=by omega
 have hb8:(n:Int)+1<=(c:Int):=by omega
 have hb9:(i:Int)<=(n:Int):=by omega
 obtain⟨h,hcur1⟩:∃h:Array Value,h=(y.toList.take (off+(i*z+z))++cs.drop (i*z)++y.toList.drop (off+(i*z+z)+(cs.drop (i*z)).length)).toArray:=⟨_,rfl⟩
 have hni:n*z=i*z+(n-i)*z:=by rw[<-Jf];congr 1;omega
 have hl1:off+(i*z+z)+(cs.drop (i*z)).length<=y.toList.length:=by rw[hdl];simp;omega
 have hs1:h.size=y.size:=by rw[hcur1];simpa using Cx y.toList _ _ hl1
 have hcp1:∀ty dc sc,(Builtin.copy_ #[(ρ.t 24),(ρ.t 24)] ty #[.slice (some ⟨b,off+(i*z+z),none⟩) (n-i) dc,.slice (some ⟨b,off+i*z,none⟩) (n+1-i) sc]).run P w.drew=.ok (goInt (n-i:Nat)) (w.drew.setRow b h):=λty dc sc=>by
  rw[hcur1]
  exact Lq w.drew _ _ ty E b (off+(i*z+z)) (n-i) dc ⟨b,off+i*z,none⟩ (n+1-i) sc z (n-i) y Eb (cs.drop (i*z)) L.t24 hsz hg (by simp only[Nat.min_def];split<;>omega) hdl
   (λj v hj=>by
    rw[Gf]at hj
    have:=hcs _ v hj
    rw[Addr.add_lit]
    show(match w.heap[b]? with | some (.cells c _ _)=>c[off+i*z+j]? | _=>none)=some v
    simp only[hg,Mw,this]) (by simpa using hl1) (λv hv=>h1c v (OC hv))
 obtain⟨cur2,hcur2⟩:∃cur2:Array Value,cur2=(h.toList.take (off+i*z)++vs++h.toList.drop (off+i*z+vs.length)).toArray:=⟨_,rfl⟩
 have hl2:off+i*z+vs.length<=h.toList.length:=by rw[hvl];simp[hs1];omega
 have hs2:cur2.size=y.size:=by rw[hcur2,<-hs1];simpa using Cx h.toList _ _ hl2
 have hcp2:∀(W:World),W.heap=(w.setRow b h).heap->∀ty dc,(Builtin.copy_ #[(ρ.t 24),(ρ.t 24)] ty #[.slice (some ⟨b,off+i*z,none⟩) (n+1-i) dc,.slice (some ⟨vb,voff,none⟩) 1 vc]).run P W=.ok (goInt (1:Nat)) (W.setRow b cur2):=λW hW ty dc=>by
  rw[hcur2]
  exact Lq W _ _ ty E b (off+i*z) (n+1-i) dc ⟨vb,voff,none⟩ 1 vc z 1 h Eb vs L.t24 hsz (by rw[hW];exact setRow_heap w b y _ Eb _ hg) (by simp only[Nat.min_def];split<;>omega) (by rw[hvl,Mx])
   (λj v hj=>by
    have:=hvs _ v hj
    rw[Addr.add_lit]
    have hh:W.heap[vb]? = some (.cells vcur Ev (0,0)):=by rw[hW,setRow_other w b vb _ hvb];exact hvg
    show(match W.heap[vb]? with | some (.cells c _ _)=>c[voff+j]? | _=>none)=some v
    simp only[hh,this]) (by simpa using hl2) h1v
 have hfin:∀(j:Nat) v,(cs.take (i*z)++vs++cs.drop (i*z))[j]? = some v->cur2[off+j]? = some v:=λj v hj=>by
  have e1:∀k:Nat,h.toList[k]? = if k<off+(i*z+z)then y.toList[k]? else if k<off+(i*z+z)+(cs.drop (i*z)).length then(cs.drop (i*z))[k-(off+(i*z+z))]? else y.toList[k]? := λk=>by rw[hcur1,List.toList_toArray];exact OV _ _ _ hl1 k
  rw[hcur2,UA,OV _ _ _ hl2]
  have htl:(cs.take (i*z)).length=i*z:=by rw[KS,hcl];omega
  by_cases h1:j<i*z
  ·rw[De,YL (by omega),Jy,if_pos h1]at hj
   rw[if_pos (by omega),e1,if_pos (by omega)]
   simpa using hcs j v hj
  by_cases h2:j<i*z+z
  ·rw[YL (by rw[JT];omega),Jx (by omega)]at hj
   rw[if_neg (by omega),if_pos (by omega),<-hj];congr 1;omega
  rw[Jx (by rw[JT];omega)]at hj
  have hjl:=(Xe.1 hj).1
  rw[hdl,JT]at hjl
  rw[if_neg (by omega),if_neg (by omega),e1,if_neg (by omega),if_pos (by rw[hdl];omega),<-hj];congr 1;rw[JT];omega
 have hlast:∀W:World,W.heap=((w.setRow b h).setRow b cur2).heap->W.heap.size=w.heap.size/\(∀k,k≠b->W.heap[k]? = w.heap[k]?)/\
   ∃D:Array Value,W.heap[b]? = some (.cells D Eb (0,0))/\D.size=y.size/\∀(j:Nat) v,(cs.take (i*z)++vs++cs.drop (i*z))[j]? = some v->D[off+j]? = some v:=λW hW=>by
  refine⟨by rw[hW];simp,λk hk=>by rw[hW,setRow_other _ b k _ hk,setRow_other _ b k _ hk],cur2,?_,hs2,hfin⟩
  rw[hW];exact setRow_heap _ b h _ Eb _ (setRow_heap w b y _ Eb _ hg)
 clear hfin hs2 hl2 hcur2 hs1 hl1 hcur1
 go_enter L.f22,Qaa ρ n1
 go_wp2_with (simp only[hov])
 go_region_law_o (refine step_copy_runI rfl _ _ (ρ.t 24) (ρ.t 24) rfl _ _ (by simp[Act.eval,Act.put]) (by simp[Act.eval,Act.put]) (hcp1 _ _ _) ?_)
 go_wp2_with (refine wpList_copy_runI _ rfl _ _ (ρ.t 24) (ρ.t 24) rfl _ _ rfl rfl (hcp2 _ (by rfl) _ _) ?_)
 go_ret
 exact⟨rfl,rfl,rfl,rfl,hlast _ rfl⟩
set_option maxHeartbeats 4000000 in
set_option maxRecDepth 615 in
def QkZ (L:Qbw P ρ n1 n2 E z by_ zv)(b off n c i vb voff vc:Nat)(cur vcur:Array Value)(Eb Ev:TypeId)(cs vs:L_ Value)(w:World)(hi:i<n)(hnc:n<=c)(hroom:c<n+1)(hn32:n+1<=4294967296)(hg:w.heap[b]? = some (.cells cur Eb (0,0)))
  (hcl:cs.length=n*z) (hcs:∀(j:Nat) v,cs[j]? = some v->cur[off+j]? = some v) (h1c:∀v∈cs,v.oneCell'=true) (hvl:vs.length=z) (hvg:w.heap[vb]? = some (.cells vcur Ev (0,0)))
  (hvs:∀(j:Nat) v,vs[j]? = some v->vcur[voff+j]? = some v) (h1v:∀v∈vs,v.oneCell'=true):
  Calls P (ρ.f 22) #[.slice (some ⟨b,off,none⟩) n c,.int .i64 i,.slice (some ⟨vb,voff,none⟩) 1 vc] w λe w'=>
   ∃G,n+1<=G/\e=.returned (.slice (some ⟨w.heap.size,0,none⟩) (n+1) G)/\w'.os=w.os/\w'.tape=w.tape/\w'.output=w.output/\w'.heap.size=w.heap.size+1/\(∀k,k<w.heap.size->w'.heap[k]? = w.heap[k]?)/\
   ∃cur':Array Value,w'.heap[w.heap.size]? = some (.cells cur' E (0,0))/\cur'.size=G*z/\∀(j:Nat) v,(cs.take (i*z)++vs++cs.drop (i*z))[j]? = some v->cur'[j]? = some v:=by
 have t0:=L.t0;have t3:=L.t3;have t4:=L.t4;have t24:=L.t24
 have u0:=run_underlying L.t0;have u3:=run_underlying L.t3;have u4:=run_underlying L.t4;have u24:=run_underlying L.t24
 have zE:=L.zE
 have mixed:=L.mixed
 obtain⟨i0,hi0,hz0,hzs,hzb⟩:=info_parts L.iE
 have hsz:(P.info? E).map (·.size)=some z:=by rw[hi0];simp[hzs]
 have hzp:=L.z0
 have hsm:=L.small
 have hin:(i+1)*z<=n*z:=JA z hi
 have hi1:(i+1)*z=i*z+z:=by rw[Jf,Mx]
 have hbw:b<w.heap.size:=(Ud.1 hg).1
 have hvw:vb<w.heap.size:=(Ud.1 hvg).1
 have hkk:(n:Int)+1-(i:Int)=((n+1-i:Nat):Int):=by omega
 have hik:i+(n+1-i)=n+1:=by omega
 have hbig:(n+1)*by_<=140737488355328:=by
  have:(n+1)*by_<=4294967296*32768:=Nat.mul_le_mul hn32 hsm
  omega
 have htl:(cs.take (i*z)).length=i*z:=by rw[KS,hcl];omega
 have hold:(Builtin.firstCells i0.size i (.slice (some ⟨b,off,none⟩) i c)).run P w.drew=.ok (cs.take (i*z)).toArray w.drew:=by
  rw[hzs]
  exact run_firstCells_some w.drew z i ⟨b,off,none⟩ i c (cs.take (i*z)) htl (λj v hj=>by
   rw[Addr.add_lit]
   rw[Jy]at hj
   split at hj
   ·show(match w.heap[b]? with | some (.cells c _ _)=>c[off+j]? | _=>none)=some v
    simp only[hg,hcs j v hj]
   cases hj)
 have hrz:∀ty,(Builtin.append_ #[(ρ.t 24),(ρ.t 3)] ty #[.slice (some ⟨b,off,none⟩) i c,.int .i64 ((n:Int)+1-(i:Int))]).run P w =
   .ok (.slice (some ⟨w.heap.size,0,none⟩) (n+1) (grownCap w (n+1) c E)) (w.drew.alloc (.cells ((cs.take (i*z)).toArray++Builtin.zeroCells zv.cells (n+1-i)++Builtin.zeroCells zv.cells (grownCap w (n+1) c E-(n+1))) E)):=λty=>by
  have h:=Lib.run_append_grow_zeros w (ρ.t 24) (ρ.t 3) ty E i0 _ .i64 .i64 L.t24 L.t3 hi0 hz0 (some ⟨b,off,none⟩) i c (cs.take (i*z)) hold (n+1-i) (by omega) (by rw[hzs];omega) (by omega) (by omega)
   (by rw[hzb];have:(n+1-i)*by_<=(n+1)*by_:=JA _ (by omega);omega) (by rw[hzb,hik];exact growslice_fits hroom hbig)
  rw[hik]at h
  rw[hkk]
  exact h
 have hGn:n+1<=grownCap w (n+1) c E:=grownCap_ge w _ _ _
 obtain⟨G,hG⟩:∃G,G=grownCap w (n+1) c E:=⟨_,rfl⟩
 rw[<-hG]at hrz hGn
 obtain⟨D,hROW⟩:∃D:Array Value,D=(cs.take (i*z)).toArray++Builtin.zeroCells zv.cells (n+1-i)++Builtin.zeroCells zv.cells (G-(n+1)):=⟨_,rfl⟩
 rw[<-hROW]at hrz
 have hRl:D.size=G*z:=by
  rw[hROW]
  simp only[Array.size_append,Ta,htl,size_zeroCells,L.zc,<-Jf]
  congr 1;omega
 have hRold:∀(j:Nat) v,(cs.take (i*z))[j]? = some v->D[j]? = some v:=λj v hj=>by
  have hjl:=(Xe.1 hj).1
  rw[hROW,Qfw (by simp;omega),Qfw (by simpa using hjl)]
  simpa using hj
 have hGz:(n+1)*z<=G*z:=JA z hGn
 have hn1:(n+1)*z=n*z+z:=by rw[Jf,Mx]
 have hdl:(cs.drop (i*z)).length=(n-i)*z:=by rw[Fp,hcl,Nat.sub_mul]
 have hni:n*z=i*z+(n-i)*z:=by rw[<-Jf];congr 1;omega
 obtain⟨y,hrow1⟩:∃y:Array Value,y=(D.toList.take (i*z)++vs++D.toList.drop (i*z+vs.length)).toArray:=⟨_,rfl⟩
 have hl1:i*z+vs.length<=D.toList.length:=by rw[hvl];simp[hRl];omega
 have hs1:y.size=G*z:=by rw[hrow1,<-hRl];simpa using Cx D.toList _ _ hl1
 obtain⟨row2,hrow2⟩:∃row2:Array Value,row2=(y.toList.take (i*z+z)++cs.drop (i*z)++y.toList.drop (i*z+z+(cs.drop (i*z)).length)).toArray:=⟨_,rfl⟩
 have hl2:i*z+z+(cs.drop (i*z)).length<=y.toList.length:=by rw[hdl];simp[hs1];omega
 have hs2:row2.size=G*z:=by rw[hrow2,<-hs1];simpa using Cx y.toList _ _ hl2
 obtain⟨W1,hW1⟩:∃W1,W1=w.drew.alloc (.cells D E):=⟨_,rfl⟩
 have hN:W1.heap[w.heap.size]? = some (.cells D E (0,0)):=by rw[hW1];exact heap_alloc_new w.drew _
 have hO:∀k,k<w.heap.size->W1.heap[k]? = w.heap[k]? := λk hk=>by rw[hW1];exact Below.heap_alloc w.drew _ k hk
 have hWs:W1.heap.size=w.heap.size+1:=by rw[hW1];simp
 rw[<-hW1]at hrz
 have hcpA:∀(W:World),W.heap=W1.heap->∀ty dc,(Builtin.copy_ #[(ρ.t 24),(ρ.t 24)] ty #[.slice (some ⟨w.heap.size,i*z,none⟩) (n+1-i) dc,.slice (some ⟨vb,voff,none⟩) 1 vc]).run P W=.ok (goInt (1:Nat)) (W.setRow w.heap.size y):=λW hW ty dc=>by
  rw[hrow1]
  exact Lq W _ _ ty E w.heap.size (i*z) (n+1-i) dc ⟨vb,voff,none⟩ 1 vc z 1 D E vs L.t24 hsz (by rw[hW];exact hN) (by simp only[Nat.min_def];split<;>omega) (by rw[hvl,Mx])
   (λj v hj=>by
    have:=hvs _ v hj
    rw[Addr.add_lit]
    have hh:W.heap[vb]? = some (.cells vcur Ev (0,0)):=by rw[hW,hO _ hvw];exact hvg
    show(match W.heap[vb]? with | some (.cells c _ _)=>c[voff+j]? | _=>none)=some v
    simp only[hh,this]) (by simpa using hl1) h1v
 have hcpB:∀(W:World),W.heap=(W1.setRow w.heap.size y).heap->∀ty dc sc,(Builtin.copy_ #[(ρ.t 24),(ρ.t 24)] ty #[.slice (some ⟨w.heap.size,i*z+z,none⟩) (n-i) dc,.slice (some ⟨b,off+i*z,none⟩) (n-i) sc]).run P W=.ok (goInt (n-i:Nat)) (W.setRow w.heap.size row2):=λW hW ty dc sc=>by
  rw[hrow2]
  exact Lq W _ _ ty E w.heap.size (i*z+z) (n-i) dc ⟨b,off+i*z,none⟩ (n-i) sc z (n-i) y E (cs.drop (i*z)) L.t24 hsz (by rw[hW];exact setRow_heap W1 _ D _ E _ hN) (Nat.min_self _) hdl
   (λj v hj=>by
    rw[Gf]at hj
    have:=hcs _ v hj
    rw[Addr.add_lit]
    have hh:W.heap[b]? = some (.cells cur Eb (0,0)):=by rw[hW,setRow_other W1 _ b _ (by omega),hO _ hbw];exact hg
    show(match W.heap[b]? with | some (.cells c _ _)=>c[off+i*z+j]? | _=>none)=some v
    simp only[hh,Mw,this]) (by simpa using hl2) (λv hv=>h1c v (OC hv))
 have hfin:∀(j:Nat) v,(cs.take (i*z)++vs++cs.drop (i*z))[j]? = some v->row2[j]? = some v:=λj v hj=>by
  have e1:∀k:Nat,y.toList[k]? = if k<i*z then D.toList[k]? else if k<i*z+vs.length then vs[k-i*z]? else D.toList[k]? := λk=>by rw[hrow1,List.toList_toArray];exact OV _ _ _ hl1 k
  rw[hrow2,UA,OV _ _ _ hl2]
  by_cases h1:j<i*z
  ·rw[De,YL (by omega)]at hj
   rw[if_pos (by omega),e1,if_pos (by omega)]
   simpa using hRold j v hj
  by_cases h2:j<i*z+z
  ·rw[YL (by rw[JT];omega),Jx (by omega)]at hj
   rw[if_pos (by omega),e1,if_neg h1,if_pos (by omega),<-hj];congr 1;omega
  rw[Jx (by rw[JT];omega)]at hj
  have hjl:=(Xe.1 hj).1
  rw[JT]at hjl
  rw[if_neg (by omega),if_pos (by omega),<-hj];congr 1;rw[JT];omega
 have hlast:∀W:World,W.heap=((W1.setRow w.heap.size y).setRow w.heap.size row2).heap->W.heap.size=w.heap.size+1/\(∀k,k<w.heap.size->W.heap[k]? = w.heap[k]?)/\
   ∃cur':Array Value,W.heap[w.heap.size]? = some (.cells cur' E (0,0))/\cur'.size=G*z/\∀(j:Nat) v,(cs.take (i*z)++vs++cs.drop (i*z))[j]? = some v->cur'[j]? = some v:=λW hW=>by
  refine⟨by rw[hW];simp[hWs],λk hk=>by rw[hW,setRow_other _ _ k _ (by omega),setRow_other _ _ k _ (by omega),hO k hk],row2,?_,hs2,hfin⟩
  rw[hW];exact setRow_heap _ _ y _ E _ (setRow_heap W1 _ D _ E _ hN)
 have hWo:W1.os=w.os/\W1.tape=w.tape/\W1.output=w.output:=by rw[hW1];exact⟨rfl,rfl,rfl⟩
 have hz1:¬((1:Int)=0):=by omega
 have hz2:¬((i:Int)=(n:Int)):=by omega
 have hz3:(c:Int)<(n:Int)+1:=by omega
 have hw1:IntKind.i64.wrap ((i:Int)+1)=(i:Int)+1:=by rw[IntKind.wrap_i64];omega
 have hw2:IntKind.i64.wrap ((n:Int)+1)=(n:Int)+1:=by rw[IntKind.wrap_i64];omega
 have hw3:IntKind.i64.wrap ((n:Int)+1-(i:Int))=(n:Int)+1-(i:Int):=by rw[IntKind.wrap_i64];omega
 have hb0:(0:Int)<=(i:Int):=by omega
 have hb1:(0:Int)<=(i:Int)+1:=by omega
 have htn:((i:Int)+1).toNat=i+1:=by omega
 have hb3:(i:Int)<=(n:Int):=by omega
 have hb4:(i:Int)<=(c:Int):=by omega
 have hb5:(i:Int)<=(n:Int)+1:=by omega
 have hb6:(i:Int)+1<=(n:Int)+1:=by omega
 have hGi:¬(G=i):=by omega
 have hGim:¬(G=i+1):=by omega
 have hci:¬(c=i):=by omega
 clear hfin hs2 hl2 hrow2 hs1 hl1 hrow1 hO hN hWs hRold hRl hROW hG hold hkk hik hW1
 go_enter L.f22,Qaa ρ n1
 go_wp2_with (first
  | (at_builtin;refine Lib.wpList_append_run _ rfl _ _ _ _ rfl _ _ rfl rfl _ _ (hrz _) ?_)
  | (refine wpList_copy_runI _ rfl _ _ (ρ.t 24) (ρ.t 24) rfl _ _ rfl rfl (hcpA _ (by rfl) _ _) ?_))
 go_region_law_o (refine step_copy_runI rfl _ _ (ρ.t 24) (ρ.t 24) rfl (.slice (some ⟨w.heap.size,i*z+z,none⟩) (n-i) (G-(i+1))) (.slice (some ⟨b,off+i*z,none⟩) (n-i) (c-i)) (by simp[Act.eval,Act.put]) (by simp[Act.eval,Act.put]) (hcpB _ (by rfl) _ _ _) ?_)
 go_wp2
 go_ret
 exact⟨G,hGn,rfl,hWo.1,hWo.2.1,hWo.2.2,hlast _ rfl⟩
set_option maxHeartbeats 4000000 in
set_option maxRecDepth 615 in
def QfL (L:Qbw P ρ n1 n2 E z by_ zv)(base D:O_ Addr)(n c vc:Nat)(w:World)(y:Value)(w':World)
  (h:∀ty,(Builtin.append_ #[(ρ.t 24),(ρ.t 24)] ty #[.slice base n c,.slice D 1 vc]).run P w=.ok y w'):
  Calls P (ρ.f 22) #[.slice base n c,.int .i64 n,.slice D 1 vc] w λe w2=>e=.returned y/\w2=w':=by
 have t0:=L.t0;have t3:=L.t3;have t4:=L.t4;have t24:=L.t24
 have u0:=run_underlying L.t0;have u3:=run_underlying L.t3;have u4:=run_underlying L.t4;have u24:=run_underlying L.t24
 have zE:=L.zE
 have mixed:=L.mixed
 have hz1:¬((1:Int)=0):=by omega
 have hb0:(0:Int)<=(n:Int):=by omega
 go_enter L.f22,Qaa ρ n1
 go_wp2_with (at_builtin;refine Lib.wpList_append_run _ rfl _ _ _ _ rfl _ _ rfl rfl _ _ (h _) ?_)
 all_goals
  go_ret
  exact⟨rfl,rfl⟩
def DN (I:Nat->Prop)(w:World)(z:Nat)(l:L_ Value)(rs:L_ (L_ V)):Prop:=l.length=rs.length*z/\(∀r∈rs,Er z r)/\(∀u∈l,u.oneCell'=true)/\∀(i:Nat) r,rs[i]? = some r->∀(j:Nat) v,r[j]? = some v->∃u,l[i*z+j]? = some u/\Xy I w u v
def DN.append {I:Nat->Prop}{w:World}{l m:L_ Value}{rs us:L_ (L_ V)}(h:DN I w z l rs)(k:DN I w z m us):DN I w z (l++m) (rs++us):=by
 obtain⟨y,h2,h3,h4⟩:=h
 obtain⟨D,k2,k3,k4⟩:=k
 obtain⟨g1,g2⟩:=OG (rest:=[]) (n:=rs.length) rfl y h2 k2 D h4 k4
 refine⟨by rw[JT,JT,y,D,Jf],g1,λu hu=>(Ep.1 hu).elim (h3 u) (k3 u),by simpa using g2⟩
def DN.take {I:Nat->Prop}{w:World}{l:L_ Value}{rs:L_ (L_ V)}(h:DN I w z l rs){i:Nat}(hi:i<=rs.length):DN I w z (l.take (i*z)) (rs.take i):=by
 obtain⟨h1,h2,h3,h4⟩:=h
 have hle:i*z<=rs.length*z:=JA z hi
 refine⟨by rw[KS,KS,h1,ZC hle,ZC hi],λr hr=>h2 r (Ai hr),λu hu=>h3 u (Ai hu),λk r y j v hj=>?_⟩
 rw[Jy]at y
 split at y
 ·rename_i D
  obtain⟨u,hu,hD⟩:=h4 k r y j v hj
  have hjz:j<z:=by have:=(Xe.1 hj).1;rwa[(h2 r (XU y)).1]at this
  have:(k+1)*z<=i*z:=JA z D
  rw[Jf]at this
  exact⟨u,by rw[Jy,if_pos (by omega)];exact hu,hD⟩
 cases y
def DN.drop {I:Nat->Prop}{w:World}{l:L_ Value}{rs:L_ (L_ V)}(h:DN I w z l rs){i:Nat}(hi:i<=rs.length):DN I w z (l.drop (i*z)) (rs.drop i):=by
 obtain⟨h1,h2,h3,h4⟩:=h
 refine⟨by rw[Fp,Fp,h1,Nat.sub_mul],λr hr=>h2 r (OC hr),λu y=>h3 u (OC y),λk r D j v hj=>?_⟩
 rw[Gf]at D
 obtain⟨u,y,hD⟩:=h4 _ r D j v hj
 exact⟨u,by rw[Gf,<-y];congr 1;rw[Jf];omega,hD⟩
def DN.mono {I I':Nat->Prop}{w w':World}(y:∀k,I k->I' k/\w'.heap[k]? = w.heap[k]?){l:L_ Value}{rs:L_ (L_ V)}(h:DN I w z l rs):DN I' w' z l rs:=
 ⟨h.1,h.2.1,h.2.2.1,λi r D j v hj=>let ⟨u,hu,hD⟩:=h.2.2.2 i r D j v hj;⟨u,hu,hD.mono y⟩⟩
def Yn.flat {I:Nat->Prop}{w:World}{B:Xa}{rs:L_ (L_ V)}(hz0:0<z)(h:Yn I w B z rs):B.z=z/\rs.length<=B.cap/\∃D E l,w.heap[B.b]? = some (.cells D E (0,0))/\B.off+B.cap*z<=D.size/\DN I w z l rs/\
  ∀(j:Nat) v,l[j]? = some v->D[B.off+j]? = some v:=by
 obtain⟨h1,h2,h3,D,E,h4,h5,h6⟩:=h
 have hle:rs.length*z<=B.cap*z:=JA z h2
 have hl:∀(j:Nat),j<rs.length*z->((D.toList.drop B.off).take (rs.length*z))[j]? = D[B.off+j]? := λj hj=>by rw[Jy,if_pos hj,Gf];simp
 have y:((D.toList.drop B.off).take (rs.length*z)).length=rs.length*z:=by simp;omega
 refine⟨h1,h2,D,E,(D.toList.drop B.off).take (rs.length*z),h4,h5,⟨y,h3,λu hu=>?_,λi r hi j v hj=>?_⟩,λj v hj=>?_⟩
 ·obtain⟨k,hk⟩:=Mv.1 hu
  have hkl:=(Xe.1 hk).1
  rw[y]at hkl
  rw[hl k hkl]at hk
  have hi:k / z<rs.length:=(Nat.div_lt_iff_lt_mul hz0).2 hkl
  have hrow:=h3 rs[k / z] (XW _)
  have hjz:k % z<(rs[k / z]).length:=by rw[hrow.1];exact Nat.mod_lt _ hz0
  obtain⟨x,hx,hD⟩:=h6 (k / z) _ (QR hi) (k % z) _ (QR hjz)
  rw[show k / z*z+k % z=k by rw[Nat.mul_comm];exact Nat.div_add_mod k z,hk]at hx
  cases hx
  exact((QO.dat (φ:=λ_=>none) hD).oneCell (hrow.2 _ (XW _))).2
 ·have hil:=(Xe.1 hi).1
  have hjz:j<z:=by have:=(Xe.1 hj).1;rwa[(h3 r (XU hi)).1]at this
  have:(i+1)*z<=rs.length*z:=JA z hil
  rw[Jf]at this
  rw[hl _ (by omega)]
  exact h6 i r hi j v hj
 have hjl:=(Xe.1 hj).1
 rw[y]at hjl
 rw[<-hl j hjl];exact hj
def Qk0 {S:Nat->Prop}{φ:Nat->O_ Xa}{w w':World}{vals:Array Value}{args:L_ V}{rs us rs':L_ (L_ V)}{B':Xa}{l:L_ Value}{y:Array Value}{E':TypeId}(hi:Ins S φ w vals args [(615,.arr z rs),(616,.arr z us)])
  (ho:w'.os=w.os) (ht:w'.tape=w.tape) (hu:w'.output=w.output) (hs:w.heap.size<=w'.heap.size) (hm:B'.more=[]) (hBz:B'.z=z) (hlt:B'.b<w'.heap.size) (hk:∀k,k<w.heap.size->k≠B'.b->w'.heap[k]? = w.heap[k]?)
  (hold:B'.b<w.heap.size->∃B,φ 615=some B/\B.has B'.b) (hl:DN S w z l rs') (hg:w'.heap[B'.b]? = some (.cells y E' (0,0))) (hsz:B'.off+B'.cap*z<=y.size) (hcap:rs'.length<=B'.cap)
  (hc:∀(j:Nat) v,l[j]? = some v->y[B'.off+j]? = some v):
  Outs S φ w (λo=>if o=615 then some B' else none) w' (.slice (some ⟨B'.b,B'.off,none⟩) rs'.length B'.cap) (.own 615 rs'.length) [(615,.arr z rs')]:=by
 have hB:∀k,B'.has k↔k=B'.b:=λk=>by simp[Xa.has,hm]
 have hφ:∀o B,(if o=615 then some B' else none)=some B->o=615/\B=B':=λo B h=>by
  split at h
  ·rename_i e;cases h;exact⟨e,rfl⟩
  cases h
 have hS:∀k,S k->k<w.heap.size/\k≠B'.b:=λk hk'=>⟨hi.lt k hk',λe=>by
  obtain⟨B,h1,D⟩:=hold (e▸hi.lt k hk')
  exact((hi.dom _ B h1).2.1 _ D).2 (e▸hk')⟩
 have hA:∀k,S k->RC S (λo=>if o=615 then some B' else none) w w' k/\w'.heap[k]? = w.heap[k]? := λk hk'=>by
  obtain⟨h1,D⟩:=hS k hk'
  refine⟨⟨Aj h1 hs,λ_=>hk',λo B h e=>?_⟩,hk k h1 D⟩
  obtain⟨_,rfl⟩:=hφ o B h
  exact D ((hB k).1 e)
 refine⟨ho,ht,hu,hs,λk h1 D=>hk k h1 λe=>?_,λo o' B1 B2 k h1 D _ _=>?_,λo B h=>?_,λo B k h D=>?_,λo B k h D h3=>?_,⟨λo B h1 h=>?_,λo ob B h1 D h3=>?_⟩,.own 615 _ B' (by simp) hcap,λo ob h=>?_⟩
 ·obtain⟨B,h3,h4⟩:=hold (e▸h1)
  exact D _ B h3 (e▸h4)
 ·rw[(hφ o B1 h1).1,(hφ o' B2 D).1]
 ·rw[(hφ o B h).1];exact⟨_,QC _ _ _⟩
 ·obtain⟨_,rfl⟩:=hφ o B h
  rw[(hB k).1 D]
  exact⟨hlt,λh3=>let ⟨B,h4,h5⟩:=hold h3;⟨_,B,h4,h5⟩⟩
 ·have:=(hφ o B h).1;omega
 ·have:=(hφ o B h).1;omega
 ·by_cases e:615=o
  ·omega
  rw[QA _ _ e]at D;cases D
 by_cases e:615=o
 ·subst e
  rw[QC]at h;cases h
  refine .inl ⟨B',by simp,hBz,hcap,hl.2.1,y,E',hg,hsz,λi r hi j v hj=>?_⟩
  obtain⟨u,hu,hD⟩:=hl.2.2.2 i r hi j v hj
  exact⟨u,hc _ u hu,hD.mono hA⟩
 rw[QA _ _ e]at h;cases h
def QhK (L:Qbw P ρ n1 n2 E z by_ zv)(rs:L_ (L_ V))(u:L_ V)(i:Int)(h0:0<=i)(hi:i.toNat<=rs.length)(hn:rs.length+1<=4294967296):
  QX P (ρ.f 22) [.own 615 rs.length,.i .i64 i,.own 616 1] [(615,.arr z rs),(616,.arr z [u])] (Gives (.own 615 (rs.take i.toNat++u::rs.drop i.toNat).length) [(615,.arr z (rs.take i.toNat++u::rs.drop i.toNat))]):=by
 intro S φ w vals hin _
 obtain⟨m,rfl⟩:∃m:Nat,i=m:=⟨i.toNat,by omega⟩
 rw[DE]at hi ⊢
 have hs:=hin.size
 obtain⟨v0,v1,v2,hv⟩:∃v0 v1 v2,vals=#[v0,v1,v2]:=by
  obtain⟨l⟩:=vals
  match l,hs with
  | [x,y,z],_=>exact⟨x,y,z,rfl⟩
 subst hv
 have a0:=hin.args 0 v0 _ rfl rfl
 have a1:=(hin.args 1 v1 _ rfl rfl).i_inv
 have a2:=hin.args 2 v2 _ rfl rfl
 subst a1
 have hlen:(rs.take m++u::rs.drop m).length=rs.length+1:=by simp;omega
 have happ:rs.take m++u::rs.drop m=rs.take m++[u]++rs.drop m:=by simp
 obtain⟨i0,hi0,hz0,hzs,hzb⟩:=info_parts L.iE
 have hsm:=L.small
 have hbig:(rs.length+1)*by_<=140737488355328:=by
  have:(rs.length+1)*by_<=4294967296*32768:=Nat.mul_le_mul hn hsm
  omega
 rcases a2.own_inv with⟨_,h⟩|⟨D,hB2,hc2,rfl⟩
 ·omega
 have hob2:Yn S w D z [u]:=by
  rcases hin.heap 616 (.arr z [u]) (by rw[QA _ _ (by omega)];exact QC _ _ _)with⟨B',hB',hr⟩|⟨hn',_⟩
  ·rw[hB2]at hB';cases hB';exact hr
  rw[hB2]at hn';cases hn'
 obtain⟨_,_,vcur,Ev,vs,hvg,_,hvr,hvc⟩:=Yn.flat L.z0 hob2
 have hvl:vs.length=z:=by have:=hvr.1;simpa using this
 have hvs:∀(j:Nat) v,vs[j]? = some v->w.cell? ((⟨D.b,D.off,none⟩:Addr).add j)=some v:=λj v hj=>by
  rw[Addr.add_lit]
  show(match w.heap[D.b]? with | some (.cells c _ _)=>c[D.off+j]? | _=>none)=some v
  simp only[hvg,hvc j v hj]
 have fin:∀{B':Xa} {w':World} {l:L_ Value} {cur':Array Value} {E':TypeId},w'.os=w.os->w'.tape=w.tape->w'.output=w.output->w.heap.size<=w'.heap.size->B'.more=[]->B'.z=z->B'.b<w'.heap.size->(∀k,k<w.heap.size->k≠B'.b->w'.heap[k]? = w.heap[k]?)->
   (B'.b<w.heap.size->∃B,φ 615=some B/\B.has B'.b)->DN S w z l (rs.take m++u::rs.drop m)->w'.heap[B'.b]? = some (.cells cur' E' (0,0))->B'.off+B'.cap*z<=cur'.size->rs.length+1<=B'.cap->(∀(j:Nat) v,l[j]? = some v->cur'[B'.off+j]? = some v)->
   ∃x v hs' φ',Ending.returned (.slice (some ⟨B'.b,B'.off,none⟩) (rs.length+1) B'.cap)=Ending.returned x/\Gives (.own 615 (rs.take m++u::rs.drop m).length) [(615,.arr z (rs.take m++u::rs.drop m))] v hs'/\Outs S φ w φ' w' x v hs':=by
  intro B' w' l cur' E' g1 g2 g3 g4 g5 g6 g7 g8 g9 g10 g11 g12 g13 g14
  have:=Qk0 (rs':=rs.take m++u::rs.drop m) hin g1 g2 g3 g4 g5 g6 g7 g8 g9 g10 g11 g12 (by rw[hlen];exact g13) g14
  exact⟨_,_,_,_,rfl,⟨rfl,λc ob h=>h⟩,by rw[hlen]at this ⊢;exact this⟩
 have mid:∀{l:L_ Value},DN S w z l rs->DN S w z (l.take (m*z)++vs++l.drop (m*z)) (rs.take m++u::rs.drop m):=λh=>by
  rw[happ];exact((h.take hi).append hvr).append (h.drop hi)
 rcases a0.own_inv with⟨rfl,h0⟩|⟨B,hB,hcap,rfl⟩
 ·
  have:rs=[]:=Qg9 h0
  subst this
  have hm0:m=0:=by simpa using hi
  subst hm0
  have hrun:=λty=>run_append_nil (P:=P) w (ρ.t 24) ty E i0 zv L.t24 hi0 hz0 ⟨D.b,D.off,none⟩ 1 D.cap vs (by rw[hvl,hzs,Mx]) hvs (by omega) (by omega) (by rw[hzb];omega)
  refine(QfL L none (some ⟨D.b,D.off,none⟩) 0 0 D.cap w _ _ hrun).mono ?_
  rintro e w' ⟨rfl,rfl⟩
  have hge:=grownCap_ge w 1 0 E
  refine fin (B':=⟨w.heap.size,grownCap w 1 0 E,z,[],0⟩) (l:=vs) rfl rfl rfl (by simp) rfl rfl (by simp) (λk hk _=>Below.heap_alloc w.drew _ k hk) (λh=>by simp at h) (by simpa using hvr) (heap_alloc_new w.drew _) ?_ hge (λj v hj=>?_)
  ·simp only[Array.size_append,Ta,hvl,size_zeroCells,L.zc,Ej]
   have:z+(grownCap w 1 0 E-1)*z=grownCap w 1 0 E*z:=by
    have h1:grownCap w 1 0 E=1+(grownCap w 1 0 E-1):=by omega
    calc z+(grownCap w 1 0 E-1)*z=(1+(grownCap w 1 0 E-1))*z:=by rw[Jf,Mx]
     _=_:=by rw[<-h1]
   omega
  have:=(Xe.1 hj).1
  rw[Ej,Qfw (by simpa using this)];simpa using hj
 have hob:Yn S w B z rs:=by
  rcases hin.heap 615 _ (QC _ _ _)with⟨B',hB',hr⟩|⟨hn',_⟩
  ·rw[hB]at hB';cases hB';exact hr
  rw[hB]at hn';cases hn'
 obtain⟨hBz,_,cur,Eb,cs,hg,hfit,hr,hc⟩:=Yn.flat L.z0 hob
 have hlt:B.b<w.heap.size:=((hin.dom _ _ hB).2.1 _ B.self).1
 have hne:D.b≠B.b:=λe=>by
  have:=hin.inj _ _ _ _ B.b hB hB2 B.self (e▸D.self)
  omega
 have hcells:∀(j:Nat) v,cs[j]? = some v->w.cell? ((⟨B.b,B.off,none⟩:Addr).add j)=some v:=λj v hj=>by
  rw[Addr.add_lit]
  show(match w.heap[B.b]? with | some (.cells c _ _)=>c[B.off+j]? | _=>none)=some v
  simp only[hg,hc j v hj]
 let B':Xa:=⟨B.b,B.cap,z,[],B.off⟩
 have hold:∀k,k=B.b->∃B,φ 615=some B/\B.has k:=λk e=>⟨B,hB,e▸B.self⟩
 by_cases hend:m=rs.length
 ·subst hend
  by_cases hroom:rs.length+1<=B.cap
  ·have hfit':B.off+rs.length*i0.size+vs.length<=cur.size:=by
    rw[hzs,hvl]
    have:(rs.length+1)*z<=B.cap*z:=JA z hroom
    rw[Jf]at this;omega
   have hrun:=λty=>Tg (P:=P) (T:=ρ.t 24) (ty:=ty) L.t24 hi0 B.b B.off rs.length B.cap cur hg ⟨D.b,D.off,none⟩ 1 D.cap vs (by rw[hvl,hzs,Mx]) hvs hvr.2.2.1 hroom hfit'
   refine(QfL L (some ⟨B.b,B.off,none⟩) (some ⟨D.b,D.off,none⟩) rs.length B.cap D.cap w _ _ hrun).mono ?_
   rintro e w' ⟨rfl,rfl⟩
   have hl1:B.off+rs.length*z+vs.length<=cur.toList.length:=by rw[<-hzs];simpa using hfit'
   refine fin (B':=B') (l:=cs.take (rs.length*z)++vs++cs.drop (rs.length*z)) rfl rfl rfl (by simp) rfl rfl (by simpa using hlt) (λk _ hk=>setRow_other w B.b k _ hk) (λ_=>hold _ rfl) (mid hr) (setRow_heap w B.b cur _ Eb _ hg) ?_ hroom (λj v hj=>?_)
   ·rw[hzs,Ta,Cx _ _ _ hl1];simpa using hfit
   rw[hzs,UA,OV _ _ _ hl1]
   have h1:cs.drop (rs.length*z)=[]:=List.drop_eq_nil_of_le (by rw[hr.1];exact YZ _)
   rw[h1,Lm,UB (by rw[hr.1];exact YZ _)]at hj
   have hBo:B'.off=B.off:=rfl
   by_cases hj1:j<cs.length
   ·rw[YL hj1]at hj
    rw[if_pos (by rw[hr.1]at hj1;omega)]
    simpa using hc j v hj
   rw[Jx (by omega)]at hj
   have:=(Xe.1 hj).1
   rw[hr.1]at hj hj1 this
   rw[if_neg (by omega),if_pos (by omega),<-hj];congr 1;omega
  have hrun:=λty=>run_append_grow (P:=P) w (ρ.t 24) ty E i0 zv L.t24 hi0 hz0 ⟨B.b,B.off,none⟩ rs.length B.cap cs (by rw[hzs];exact hr.1) hcells ⟨D.b,D.off,none⟩ 1 D.cap vs (by rw[hvl,hzs,Mx]) hvs (by omega) (by omega) (by rw[hzb];exact growslice_fits (by omega) hbig)
  refine(QfL L (some ⟨B.b,B.off,none⟩) (some ⟨D.b,D.off,none⟩) rs.length B.cap D.cap w _ _ hrun).mono ?_
  rintro e w' ⟨rfl,rfl⟩
  have hge:=grownCap_ge w (rs.length+1) B.cap E
  refine fin (B':=⟨w.heap.size,grownCap w (rs.length+1) B.cap E,z,[],0⟩) (l:=cs.take (rs.length*z)++vs++cs.drop (rs.length*z)) rfl rfl rfl (by simp) rfl rfl (by simp) (λk hk _=>Below.heap_alloc w.drew _ k hk) (λh=>by simp at h) (mid hr) (heap_alloc_new w.drew _) ?_ hge (λj v hj=>?_)
  ·simp only[Array.size_append,Ta,hvl,hr.1,size_zeroCells,L.zc,Ej]
   have:rs.length*z+z+(grownCap w (rs.length+1) B.cap E-(rs.length+1))*z=grownCap w (rs.length+1) B.cap E*z:=by
    calc rs.length*z+z+(grownCap w (rs.length+1) B.cap E-(rs.length+1))*z=(rs.length+1+(grownCap w (rs.length+1) B.cap E-(rs.length+1)))*z:=by rw[Jf,Jf,Mx]
     _=_:=by congr 1;omega
   omega
  have h1:cs.drop (rs.length*z)=[]:=List.drop_eq_nil_of_le (by rw[hr.1];exact YZ _)
  rw[h1,Lm,UB (by rw[hr.1];exact YZ _)]at hj
  have hjl:=(Xe.1 hj).1
  rw[Ej,Qfw (by simpa using hjl),List.append_toArray,UA];exact hj
 by_cases hroom:rs.length+1<=B.cap
 ·refine(Qj1 L B.b B.off rs.length B.cap m D.b D.off D.cap cur vcur Eb Ev cs vs w (by omega) hroom hn hg hfit hr.1 hc hr.2.2.1 hvl hvg hvc hne hvr.2.2.1).mono ?_
  rintro e w' ⟨rfl,g1,g2,g3,g4,g5,cur',g6,g7,g8⟩
  exact fin (B':=B') g1 g2 g3 (by omega) rfl rfl (by rw[g4];exact hlt) (λk _ hk=>g5 k hk) (λ_=>hold _ rfl) (mid hr) g6 (by rw[g7];exact hfit) hroom g8
 refine(QkZ L B.b B.off rs.length B.cap m D.b D.off D.cap cur vcur Eb Ev cs vs w (by omega) hcap (by omega) hn hg hr.1 hc hr.2.2.1 hvl hvg hvc hvr.2.2.1).mono ?_
 rintro e w' ⟨G,hG,rfl,g1,g2,g3,g4,g5,cur',g6,g7,g8⟩
 exact fin (B':=⟨w.heap.size,G,z,[],0⟩) g1 g2 g3 (by omega) rfl rfl (by show w.heap.size<_;omega) (λk hk _=>g5 k hk) (λh=>absurd h (Nat.lt_irrefl _)) (mid hr) g6 (by rw[g7,Ej];exact YZ _) hG (λj v hj=>by rw[Ej];exact g8 j v hj)
section
variable {C:XA}{σ:St}{o:Oper}
end
section
variable {P:Program}{C:XA}{σ:St}{o:Oper}
def Qf.appSB {T U d e e' z z' by_ by' b n m:Nat}{x y:Operand}{rs us rs':L_ (L_ V)}{zs:L_ V}(ho:o.op=.call { callee:=.builtin .append,args:=#[x,y],argTypes:=#[T,U] })
  (hd:o.dst=some d) (hn:B_ d C) (hx:σ.opd x=some (.own b n)) (hb:look σ.hp b=some (.arr z rs)) (hb1:Nat.ble 617 b=false) (hnl:rs.length=n)
  (hT:Yo P T=some (e,z,by_)) (hU:Yo P U=some (e',z',by')) (hz:XX P e=some zs) (hzl:zs.length=z) (hz0:z≠0) (D:1<=by_) (h:decide ((n+us.length)*by_<=140737488355328)=true)
  (hy:σ.opd y=some (.sl z us)) (he:rs++us=rs') (hm:n+us.length=m):Qf P C o σ (σ.app b z d m rs'):=
 Qf.appendB ho hd hn hx hb hb1 hnl hT hU hz hzl hz0 (Kj (Nat.le_mul_of_pos_right _ D) (XC h)) (XC h) (λφ a w hr=>(hr.opd hy).source_sl) he hm
def Me {α β:Type}{us:L_ α}{y:L_ β}{n b L:Nat}(h:decide ((n+y.length)*b<=L)=true)(e:us.length=y.length):decide ((n+us.length)*b<=L)=true:=by rw[e];exact h
end
def QlQ (t:TypeId){a:Array TypeId}{b:Array TypeId}{c:Bool}(fn:Fn)(xs ys:Array Value)(w:World){P:Program}(h:P.underlying t=some (.func a b c)):(Op.equal t (.func fn xs ys) .nilFunc).run P w=.ok false w:=by
 show(Op.equalIn (9999+1) t (.func fn xs ys) .nilFunc).run P w=_
 rw[Op.equalIn]
 simp only[Xf,run_underlying h,Xl,Xx]<;>rfl
def Qk1 (t:TypeId){a:Array TypeId}{b:Array TypeId}{c:Bool}(w:World){P:Program}(h:P.underlying t=some (.func a b c)):(Op.equal t .nilFunc .nilFunc).run P w=.ok true w:=by
 show(Op.equalIn (9999+1) t .nilFunc .nilFunc).run P w=_
 rw[Op.equalIn]
 simp only[Xf,run_underlying h,Xl,Xx]<;>rfl
def QeA (P:Program)(T:TypeId):Bool:=match P.underlying T with
 | some (.func _ _ _)=>true
 | _=>false
def QhL {P:Program}{T:TypeId}(h:QeA P T=true):∃a b c,P.underlying T=some (.func a b c):=by
 unfold QeA at h
 split at h
 ·rename_i a b c e;exact⟨a,b,c,e⟩
 cases h
section
variable {P:Program}{C:XA}{o:Oper}{σ:St}
def Qf.eqFn {T U d:Nat}{x y:Operand}{fn:Fn}{vs us:L_ V}(ho:o.op=.binOp .eql T x y U)(hd:o.dst=some d)(hn:B_ d C)(hx:σ.opd x=some (.clo fn vs us))(hy:σ.opd y=some (.lit .nilFunc))(h:QeA P T=true):Qf P C o σ (σ.put d (.b false)):=by
 obtain⟨_,_,_,h⟩:=QhL h
 refine Qf.same hd hn λφ a w hr=>?_
 obtain⟨xs,ys,D,_⟩:=(hr.opd hx).clo_inv
 have hyv:=(hr.opd hy).lit_inv
 refine⟨.bool false,?_,.dat (.b _)⟩
 simp only[execOp,ho,D,hyv]
 simp[eqGuard,binOp,QlQ _ _ _ _ w h]
def Qf.eqFn0 {T U d:Nat}{x y:Operand}(ho:o.op=.binOp .eql T x y U)(hd:o.dst=some d)(hn:B_ d C)(hx:σ.opd x=some (.lit .nilFunc))(hy:σ.opd y=some (.lit .nilFunc))(h:QeA P T=true):Qf P C o σ (σ.put d (.b true)):=by
 obtain⟨_,_,_,h⟩:=QhL h
 refine Qf.same hd hn λφ a w hr=>?_
 have D:=(hr.opd hx).lit_inv
 have hyv:=(hr.opd hy).lit_inv
 refine⟨.bool true,?_,.dat (.b _)⟩
 simp only[execOp,ho,D,hyv]
 simp[eqGuard,binOp,Qk1 _ w h]
end
noncomputable abbrev V.Y:V:=.lit (.slice none 0 0)
end Go.Vm
