/- A part of the proof. -/
import Derived.Test.YtholdcjomliiiaaGreatDoorW2V2
import Derived.RangeFuncIn
import Derived.Shelf.Sort.Plain
import Derived.Shelf.Slices.In.SortNone
import Derived.Laws.BytesString
import Derived.Shelf.Slices.CompactI
import Derived.Shelf.Strings.Fields
import Derived.Test.YtholdcjomliiiaaGreatDoorW2V2
import Derived.Carry
import Derived.ReadAgain
import Derived.OpenShut
import GoSem.ClaimJoined
import Derived.Lib.LaidTab
import Derived.LaidMore
import Derived.MakeChecks
import Derived.Stop.LaidErr
import Derived.Stop.Joined
import Derived.SizedLaws
import Derived.Handed
import Derived.Shelf.Spec.SlicesInsertGrow
set_option linter.all false
namespace Go.Vm
open Go Go.RowKit
open Option renaming some→X,none→n_
def QnS (h:L_ V):L_ Tmp->L_ V->L_ V
 |p::O,v::vs=>QnS (h.set p v) O vs|_,_=>h
def Qv7 {Z:Nat->O_ Xh}{I:Nat->Prop}{w:World}:∀(ps:L_ Tmp) (h:L_ Value) (vs:L_ V) (O:Array Value) (cs:L_ V),h.length=vs.length->O.size=cs.length->
  (∀(j:Nat) x v,O[j]? = X x->cs[j]? = X v->QW Z I w x v)->(∀(j:Nat) x v,h[j]? = X x->vs[j]? = X v->QW Z I w x v)->
  ((ps.zip h).foldl (λO p=>O.setIfInBounds p.1 p.2) O).size=(QnS cs ps vs).length/\∀(j:Nat) x v,((ps.zip h).foldl (λO p=>O.setIfInBounds p.1 p.2) O)[j]? = X x->(QnS cs ps vs)[j]? = X v->QW Z I w x v:=by
 intro ps
 induction ps with
 |nil=>intro h vs O cs _ h2 h3 _;cases vs<;>exact⟨h2,h3⟩
 |cons p ps ih=>
  intro h vs O cs h1 h2 h3 h4;cases h with
  |nil=>cases vs with|nil=>exact⟨h2,h3⟩|cons=>cases h1
  |cons y h=>cases vs with
   |nil=>cases h1
   |cons v vs=>
    refine ih h vs (O.setIfInBounds p y) (cs.set p v) (by simpa using h1) (by simpa using h2) (λj x u hx hu=>?_) λj x u hx hu=>h4 (j+1) x u hx hu;by_cases e:p=j
    ·subst e;rw[Array.getElem?_setIfInBounds_self]at hx;rw[List.getElem?_set_self']at hu;split at hx
     ·rename_i hlt;cases hx;rw[Qv (by omega)]at hu;cases hu;exact h4 0 _ _ rfl rfl
     cases hx
    rw[Qsk e]at hx;rw[Vl e]at hu;exact h3 j x u hx hu
def Qbo (P:Program)(l:Nat)(K:HP)(us:L_ V)(hs:H_)(post:V->H_->Prop):Prop:=
 ∀(S:Nat->Prop) (Z:Nat->O_ Xh) (w:World) (h:Array Value),Ins S Z w h us hs->QbH P S w->
  RoundIn Fence.wide 0 P l K.fn h K.assign K.body w λe w'=>∃x v O φ',e=.returned x/\post v O/\Outs S Z w φ' w' x v O
def QzL {C:XC}{n:Nat}{P:Program}{l:Nat}{f:FuncId}{tmps:Array Value}{assign body:Code}{w:World}{R:Ending->World->Prop}(h:RoundIn Fence.wide 0 P l f tmps assign body w R):RoundIn C.F n P l f tmps assign body w R:=
 ⟨trivial,λc O _=>h.2 c O (room_wide _)⟩
section
variable {P:Program}{C:XC}{Z:Nat->O_ Xh}{Y:St}{a:Act}{w:World}{o:Oper}
def RR.lp (h:RR C Z Y a w){b l:Nat}{K:HP}{O:L_ V}{q:Nat}(hb:look Y.hp b=X (.lp l K O q)):∃B,Z b=X B/\QyB Z (Xp C Z w) w B l K O q:=by
 rcases h.heap b _ hb with h|⟨_,h⟩
 ·exact h
 exact h.elim
def RR.lpSet (h:RR C Z Y a w){b l:Nat}{K:HP}{cs:L_ V}{q q':Nat}(hb:look Y.hp b=X (.lp l K cs q)):
  ∃r:Loop,w.heap[l]? = X (.loop r)/\r.state=lst q/\r.pending=jmp q/\RR C Z (Y.set b (.lp l K cs q')) a (w.putObj l (.loop { r with state:=lst q',pending:=jmp q' })):=by
 obtain⟨B,hB,tmps,D,rfl,h1,h2,h3,h4⟩:=h.lp hb;refine⟨_,h2,rfl,rfl,?_⟩;have hlt:=(h.lt b B B.b hB B.self).1;have hk:∀k,k≠B.b->(w.putObj B.b (.loop { state:=lst q',pending:=jmp q',fn:=K.fn,tmps,params:=K.ps,assign:=K.assign,body:=K.body,defers:=D })).heap[k]? = w.heap[k]? := λk hk=>World.putObj_heap_other hk;refine h.write hB rfl rfl rfl World.putObj_size hk ⟨tmps,D,rfl,h1,World.putObj_heap_same hlt,h3,λj x v hx hv=>?_⟩;refine(h4 j x v hx hv).mono (λ_ _ h=>h) λk O=>⟨⟨by rw[World.putObj_size];exact O.1,O.2⟩,hk k λe=>O.2.2 b B hB (.inl e)⟩
def Qf.yield {d b l:Nat}{K:HP}{cs:L_ V}{q:Nat}{x:Operand}{O:Array Operand}{ts:Array TypeId}{M N:L_ (Nat×Nat)}{dead:L_ Nat}{hsC outs hsN:H_}{vs us:L_ V}{r r':V}(ho:o.op=.call { callee:=.value x,args:=O,argTypes:=ts })
  (hx:Y.opd x=X (.clo (.yield l) [] [])) (hlp:look Y.hp b=X (.lp l K cs q)) (hq:q=0) (ha:Y.opsV O.toList=X vs) (hps:vs.length=K.ps.size) (hd:o.dst=X d) (hn:B_ d C) (hpg:C.pg P)
  (hnm:Ug Y M N dead outs=true) (hnd:(M.map Prod.fst).Nodup)
  (hv:Vws Y.hp false false (Bx M) (λa b=>look M b=X a) (QnS cs K.ps.toList vs) us) (hobs:Rx Y.hp false false (Bx M) (λa b=>look M b=X a) Y.hp M hsC)
  (hc:Qbo P l K us hsC (Gives r outs)) (hback:Rx [] false false [] (λc b=>look N b=X c) outs N hsN) (hr':Vw [] false false [] (λc b=>look N b=X c) r r'):
  Qf P C o Y ((Y.after dead hsN).put d r'):=by
 intro a w ⟨Z,hr⟩ next Q hnext;subst hq;have hN:=Names.of hnm hnd;refine⟨λ_ _=>trivial,?_⟩;obtain⟨h1,h2⟩:=hr.opsV _ _ ha;obtain⟨xs,ys,hev,e1,e2,_,_⟩:=(hr.opd hx).clo_inv;have e1:xs=#[]:=Quu e1;have e2:ys=#[]:=Quu e2;subst e1;subst e2;obtain⟨B,hB,tmps,D,e0,_,hh,hsz,hrep⟩:=hr.lp hlp;have hl1:(O.toList.map a.eval).length=vs.length:=by simpa using h1
 obtain⟨s1,s2⟩:=Qv7 (Z:=Z) (I:=Xp C Z w) (w:=w) K.ps.toList (O.toList.map a.eval) vs tmps cs hl1 hsz hrep (λj x v hx hv=>by
  simp only[Yj,Yo]at hx;obtain⟨y,hy,rfl⟩:=hx;exact h2 j y v hy hv)
 have hsize:(O.map a.eval).size=K.ps.size:=by rw[<-hps,<-hl1];simp
 have hfold:(K.ps.zip (O.map a.eval)).foldl (λtmps (t,a)=>tmps.setIfInBounds t a) tmps=(K.ps.toList.zip (O.toList.map a.eval)).foldl (λtm p=>tm.setIfInBounds p.1 p.2) tmps:=by
  rw[<-Array.foldl_toList];simp
 have hex:(execOp a.eval o).run P w=.ok (.round l K.fn ((K.ps.toList.zip (O.toList.map a.eval)).foldl (λtm p=>tm.setIfInBounds p.1 p.2) tmps).toList.toArray K.assign K.body) w:=by
  simp only[execOp,ho,resolve,Xl,hev,Deferred.ofValue,Xx,Xo,invoke,Array.empty_append];rw[run_yield hh hsize,hfold]
 rw[Oper.semAt_eq _ _ _ (by rw[ho];intro c hc;cases hc),hex,Oper.uponIn_round];refine⟨(λh=>by cases h),QzL ((hc _ _ w _ (Ins.of_vals hr (by simpa using s1) (λj x v hx hv=>s2 j x v (by simpa using hx) hv) hN.injM hN.param hv hobs) ((hr.glob hpg).mono λ_ h=>.inl h)).mono ?_)⟩;rintro e w' ⟨x,v,hs',φ',rfl,⟨rfl,hso⟩,hout⟩;obtain⟨h3,h4⟩:=hr.after hN hout hso (λc s h=>by
  obtain⟨ob',e1⟩:=hobs.get.2 c s h;obtain⟨s',ob,e2,e3,_⟩:=hobs.get.1 c ob' e1;rw[h]at e2;cases e2;exact⟨ob,e3⟩) hback
 refine hnext _ _ ⟨Ry Z M N dead φ',?_⟩;rw[hd];exact h3.put (XT hn) (h4 hr')
def QzM (b l:Nat)(K:HP)(h:V->H_->Prop):Exit->St->Prop
 |.normal,Y=>∃O,look Y.hp b=X (.lp l K O 1)/\h (.b true) ((b,.lp l K O 0)::Y.hp)|.ret,Y=>∃O,look Y.hp b=X (.lp l K O 1)/\h (.b false) ((b,.lp l K O 2)::Y.hp)|.exit k,Y=>∃O,look Y.hp b=X (.lp l K O 1)/\h (.b false) ((b,.lp l K O (k+3))::Y.hp)|_,_=>False
def Qbo.walk {b l:Nat}{K:HP}{us:L_ V}{hs:H_}{post:V->H_->Prop}(n:Nat)(hn:us.length=n)(hle:Nat.ble n 621=true)
  (h:∀C:XC,Ki P C n->AK P C (λe Y=>e=.normal/\∃cs,look Y.hp b=X (.lp l K cs 0)/\AK P C (QzM b l K post) (.c K.body) [] (Y.set b (.lp l K cs 1))) (.c K.assign) [] ⟨Rv 0 us,hs⟩):Qbo P l K us hs post:=by
 intro S Z w vals hi hG;let C:XC:=⟨w,S,λk=>∃o B,Z o=X B/\B.has k,n,Z,JC hle,X l⟩;have hF:Fence.wide.inRound l=C.F:=rfl;have hI:∀k,S k->Xp C Z w k/\w.heap[k]? = w.heap[k]? := λk hk=>⟨⟨hi.lt k hk,λ_=>hk,λo B hB e=>((hi.dom o B hB).2.1 k e).2 hk⟩,rfl⟩;have hR:R C ⟨Rv 0 us,hs⟩ { tmps:=vals,defers:=[] } w:=by
  refine⟨Z,rfl,rfl,rfl,Yk _,λ_ _ _=>rfl,hi.inj,λo B hB=>(hi.dom o B hB).2.2,λo B k hB hk=>⟨((hi.dom o B hB).2.1 k hk).1,λ_=>⟨o,B,hB,hk⟩⟩,λo B k hB hk hlt=>absurd (hi.dom o B hB).1 (by omega),⟨λ_ _ _ h=>h,λ_ _ _ _ _ h=>h⟩,
   by show vals.size=n;rw[hi.size,hn],⟨[],rfl,List.nodup_nil,λ_ h=>by cases h⟩,λt v hv=>?_,λo ob hob=>?_⟩
  ·obtain⟨_,h2⟩:=QqR us 0 t v hv;rw[Nat.sub_zero]at h2;have hlt:t<vals.size:=by rw[hi.size];exact(Xf.1 h2).1
   exact⟨vals[t],AV hlt,(hi.args t _ v (AV hlt) h2).mono (λ_ _ h=>h) hI⟩
  rcases hi.heap o ob hob with⟨B,hB,hr⟩|hn
  ·exact .inl ⟨B,hB,hr.mono (λ_ _ h=>h) hI λ_ _=>rfl⟩
  exact .inr hn
 refine roundIn_of_wpIn trivial ?_;rw[hF];refine wpIn_mono (h C ⟨rfl,hG,λg hg ⟨o,B,hB,hb⟩=>((hi.dom o B hB).2.1 g hb).2 (hG g hg).1⟩ _ _ hR) ?_;rintro e a1 w1 ⟨σ1,⟨rfl,cs,hlp,hbody⟩,φ1,hr1⟩;obtain⟨r,g1,g2,g3,g4⟩:=hr1.lpSet (q':=1) hlp;refine⟨_,run_beginRound g1 g2,?_⟩;have hbusy:({ r with state:=LoopState.busy }:Loop)={ r with state:=lst 1,pending:=jmp 1 }:=by
  rw[show jmp 1=r.pending from g3.symm];rfl
 rw[hbusy];refine wpIn_mono (hbody _ _ ⟨φ1,g4⟩) ?_;rintro e a2 w2 ⟨σ2,hq,φ2,hr2⟩;have fin:∀(O:O_ Code) (q:Nat) (cs2:L_ V),look σ2.hp b=X (.lp l K cs2 1)->jmp q=O->(if O.isNone then LoopState.ready else LoopState.done)=lst q->post (.b O.isNone) ((b,.lp l K cs2 q)::σ2.hp)->
   ∃v w',(Instr.endRound l O).run P w2=.ok v w'/\∃x v' hs' φ',Ending.returned v=.returned x/\post v' hs'/\Outs S Z w φ' w' x v' hs':=λO q cs2 hl2 hj hst hp=>by
  obtain⟨r2,k1,_,_,k4⟩:=hr2.lpSet (q':=q) hl2;refine⟨_,_,run_endRound O k1,.bool O.isNone,.b O.isNone,_,φ2,rfl,hp,?_⟩;rw[hst,<-hj];exact⟨k4.os,k4.tape,k4.output,k4.size,λk hk hne=>k4.kept k hk (λ⟨o,B,hB,e⟩=>hne o B hB e),k4.inj,k4.dom,
   λo B k hB hk=>⟨(k4.lt o B k hB hk).1,λhlt=>(k4.lt o B k hB hk).2 hlt⟩,k4.new,k4.stay,.dat (.b _),k4.heap⟩
 cases e with
 |normal=>obtain⟨cs2,hl2,hp⟩:=hq;exact fin n_ 0 cs2 hl2 rfl rfl hp
 |ret=>obtain⟨cs2,hl2,hp⟩:=hq;exact fin (X .ret) 2 cs2 hl2 rfl rfl hp
 |exit k=>obtain⟨cs2,hl2,hp⟩:=hq;exact fin (X (.exit k)) (k+3) cs2 hl2 rfl rfl hp
 |_=>exact hq.elim
def RR.mark (h:RR C Z Y a w):RR C Z Y { a with defers:={ target:=.collected w.heap.size,args:=#[] }::a.defers } (w.alloc (.deferred (X []))):=by
 have O:=h.step (w':=w.alloc (.deferred (X []))) rfl rfl rfl (by simp) (λk hk=>Below.heap_alloc w _ k hk);refine⟨O.os,O.tape,O.output,O.size,O.kept,O.inj,O.dom,O.lt,O.new,O.stay,O.tmps,?_,O.frame,O.heap⟩;obtain⟨Ds,h1,h2,h3⟩:=O.defers;obtain⟨Ds',h1',h2',h3'⟩:=h.defers;refine⟨w.heap.size::Ds',by simp[h1'],NI.2 ⟨λhm=>absurd (h3' _ hm).2.1.1 (by omega),h2'⟩,λD hD=>?_⟩;rcases XP.1 hD with rfl|hD
 ·refine⟨h.size,⟨by simp,λhlt=>absurd h.size (by omega),λo B hB hh=>absurd (h.lt o B _ hB hh).1 (by omega)⟩,World.alloc_heap_new w _⟩
 obtain⟨a1,a2,a3⟩:=h3' D hD;exact⟨a1,⟨by have:=a2.1;simp;omega,a2.2⟩,(Below.heap_alloc w _ D a2.1).trans a3⟩
def RR.killTo (h:RR C Z Y a w){b:Nat}{B:Xh}(O:Z b=X B){w':World}(ho:w'.os=w.os)(ht:w'.tape=w.tape)(hu:w'.output=w.output)(hs:w'.heap.size=w.heap.size)(hk:∀k,k≠B.b->w'.heap[k]? = w.heap[k]?):RR C (BQ Z b) (Y.kill b) a w':=by
 have hI:∀k,Xp C Z w k->Xp C (BQ Z b) w' k/\w'.heap[k]? = w.heap[k]? := λk hk'=>⟨⟨by rw[hs];exact hk'.1,hk'.2.1,λo B' hB'=>hk'.2.2 o B' (WH hB').2⟩,hk k λe=>hk'.2.2 b B O (.inl e)⟩;have hφ:∀o B,o≠b->Z o=X B->BQ Z b o=X B:=λo B ho O=>by rw[EW ho];exact O
 refine⟨ho.trans h.os,ht.trans h.tape,hu.trans h.output,by rw[hs];exact h.size,λk h1 h2=>(hk k λe=>h2 ((h.lt b B k O (.inl e)).2 h1)).trans (h.kept k h1 h2),λo o' B B' k h1 h2=>h.inj o o' B B' k (WH h1).2 (WH h2).2,?_,λo B k O=>by rw[hs];exact h.lt o B k (WH O).2,λo B k O=>h.new o B k (WH O).2,
  ⟨λo B h1 O=>h.stay.1 o B h1 (WH O).2,λo ob B h1 ho O=>by obtain⟨hne,ob',h2,_⟩:=Dt _ _ _ ho;rw[EW hne];exact h.stay.2 o ob' B h1 h2 O⟩,h.tmps,h.defers.mono hI,?_,?_⟩
 ·intro o B O;obtain⟨h1,h2⟩:=WH O;obtain⟨ob,hob⟩:=h.dom o B h2;exact⟨_,Ci _ _ _ h1 hob⟩
 ·intro t v hv;obtain⟨v',hv',rfl⟩:=Qa0 _ _ _ hv;obtain⟨x,hx,hr⟩:=h.frame t v' hv';exact⟨x,hx,hr.kill hφ hI⟩
 intro o ob hob;obtain⟨hne,ob',hob',rfl⟩:=Dt _ _ _ hob;rcases h.heap o ob' hob' with⟨B',hB',hr⟩|⟨h1,hz⟩
 ·exact .inl ⟨B',hφ o B' hne hB',hr.kill hφ hI λk hk'=>hk k λe=>hne (h.inj o b B' B k hB' O hk' (.inl e))⟩
 exact .inr ⟨by rw[EW hne];exact h1,hz.kill⟩
def snap (h:L_ Nat)(fr:S_)(n:Nat):L_ V:=(List.range n).map λt=>bif XX h t then(match look fr t with|some v=>v|none=>.J)else .J
def RR.snap {ts:L_ Nat}(h:RR C Z Y a w):∀(j:Nat) x v,a.tmps[j]? = X x->(snap ts Y.fr C.n)[j]? = X v->QW Z (Xp C Z w) w x v:=by
 intro j x v hx O;simp only[Vm.snap,Yj,Yo]at O;obtain⟨t,ht,rfl⟩:=O;obtain⟨_,rfl⟩:=Xf.1 ht;simp only[Qcs]at *;cases hm:XX ts j with
 |false=>exact .dat (.J _)|true=>
 simp only[Qr];split
 ·rename_i v O;obtain⟨y,hy,hr⟩:=h.frame _ _ O;rw[hx]at hy;cases hy;exact hr
 exact .dat (.J _)
def rgV (P:Program)(Y:St)(f:Nat)(vs:L_ V)(M N:L_ (Nat×Nat))(dead:L_ Nat)(ms:L_ Mode)(outs:H_)(r:V):O_ (St×Prop):=
 bif Ug Y M N dead outs&&Ik (M.map Prod.fst)&&Ik (N.map Prod.fst)then match Vs (UO M) ms vs with
  |some us=>match Nm (UO M) (look Y.hp) M with
   |some h=>match Nm (UO N) (look outs) N with|some O=>X (Y.after dead O,QX P f us h (Gives r outs))|none=>n_
   |none=>n_
  |none=>n_
 else n_
def atJ (p:Prop)(f:Code->Prop):O_ Code->Prop
 |none=>p|some c=>f c
end
section
variable {P:Program}{C:XC}{Z:Nat->O_ Xh}{Y:St}{a:Act}{w:World}{o:Oper}
def Qi4 (P:Program)(T:TypeId)(i:Nat):O_ (Nat×Bool×Nat):=match P.underlying T with
 |some (.struct fs)=>match fs[i]? with
  |some f=>match AW P f.type with
   |some g=>match CV P f.type with|some n=>X (f.offset,g,n)|none=>n_
   |none=>n_
  |none=>n_
 |_=>n_
def QuU {T i off n:Nat}{g:Bool}(h:Qi4 P T i=X (off,g,n)):∃(fs:Array Field) (f:Field),P.underlying T=X (.struct fs)/\fs[i]? = X f/\f.offset=off/\AW P f.type=X g/\CV P f.type=X n:=by
 unfold Qi4 at h;split at h
 ·rename_i fs hu;split at h
  ·rename_i f O;split at h
   ·rename_i g' hg;split at h
    ·rename_i n' hn;cases h;exact⟨fs,f,hu,O,rfl,hg,hn⟩
    cases h
   cases h
  cases h
 cases h
def Qf.field {T i d off n:Nat}{g:Bool}{x:Operand}{cs:L_ V}{v:V}(ho:o.op=.field T x i)(hd:o.dst=X d)(hn:B_ d C)(hx:Y.opd x=X (.agg cs))(hT:Qi4 P T i=X (off,g,n))
  (h:(bif g then X (.agg ((cs.drop off).take n))else cs[off]?)=X v):Qf P C o Y (Y.put d v):=by
 refine Qf.same hd hn λZ a w hr=>?_;obtain⟨fs,f,hu,hf,rfl,hg,hsz⟩:=QuU hT;obtain⟨xs,he,hs,hc⟩:=(hr.opd hx).agg_inv;cases g with
 |true=>
  cases h;refine⟨.agg (xs.extract f.offset (f.offset+n)),?_,.agg _ _ (by simp;omega) λj x v hj h=>?_⟩
  ·simp only[execOp,ho,he,Instr.field,Xl,run_underlying hu,Xo,hf,part,asAgg,Xx,QeG hg,if_true,Qg4 hsz]
  rw[Array.getElem?_extract]at hj;split at hj
  ·rw[Kd]at h;split at h
   ·rw[UQ]at h;exact hc _ x v hj h
   cases h
  cases hj
 |false=>
  simp only[Qe]at h;have O:f.offset<xs.size:=by rw[hs];exact(Xf.1 h).1
  refine⟨xs[f.offset],?_,hc _ _ v (AV O) h⟩;simp[execOp,ho,he,Instr.field,Xl,run_underlying hu,hf,part,asAgg,QeG hg,O]
def Qv8 : ∀(ms:L_ (O_ Nat)) (h:L_ V),(EB ms h).length=h.length:=by
 intro ms
 induction ms with
 |nil=>intro h;cases h<;>rfl
 |cons m ms O=>intro h;cases h with|nil=>rfl|cons c h=>simp[EB,O]
def XG.den1 {I:Nat->Prop}{w:World}{x:Value}{v:V}{m:O_ Nat}(h:XG I w x v):XG I w x (Vm.den1 m v):=by
 unfold Vm.den1;split
 ·cases h;exact .sl0 _ _ _
 exact h
def QxG {m:O_ Nat}{v:V}(h:v.one=true):(Vm.den1 m v).one=true:=by
 unfold Vm.den1;split
 ·rfl
 exact h
def R.denilA {b z:Nat}{rs:L_ (L_ V)}{ms:L_ (O_ Nat)}(hb:look Y.hp b=X (.arr z rs))(h:R C Y a w):R C (Y.set b (.arr z (rs.map (EB ms)))) a w:=by
 obtain⟨Z,O⟩:=h;have hden:∀(ms:L_ (O_ Nat)) (r:L_ V),(∀v∈r,v.one=true)->∀v∈EB ms r,v.one=true:=by
  intro ms
  induction ms with
  |nil=>intro r O;cases r<;>exact O
  |cons m ms ih=>intro r O;cases r with
   |nil=>exact O|cons c r=>
    intro v hv;rcases XP.1 hv with rfl|hv
    ·exact QxG (O c Yc)
    exact ih r (λv hv=>O v (Ys _ hv)) v hv
 by_cases hne:rs=[]
 ·subst hne;exact⟨Z,O.sayOb (ob':=.arr z []) hb (λ_ _ h=>h) (.inl rfl)⟩
 refine⟨Z,O.sayOb hb (λB hB hrep=>?_) (.inr λe=>hne e)⟩;obtain⟨h1,h2,h3,cs,E,h4,h5,h6⟩:=hrep;refine⟨h1,by simpa using h2,λr hr'=>?_,cs,E,h4,h5,λi r hi j v hj=>?_⟩
 ·obtain⟨r0,hr0,rfl⟩:=Yt.1 hr';exact⟨by rw[Qv8];exact(h3 r0 hr0).1,hden _ _ (h3 r0 hr0).2⟩
 rw[Yj]at hi;obtain⟨r0,hi0,rfl⟩:=Yo.1 hi;obtain⟨m,v',hv',rfl⟩:=Qc7 _ _ j v hj;obtain⟨x,hx,hD⟩:=h6 i r0 hi0 j v' hv';exact⟨x,hx,hD.den1⟩
def AK.denilA {Q:Exit->St->Prop}{pt:Pt}{ks:L_ Fr}{b z:Nat}{rs us:L_ (L_ V)}(ms:L_ (O_ Nat))(O:look Y.hp b=X (.arr z rs))(he:rs.map (EB ms)=us)(k:AK P C Q pt ks (Y.set b (.arr z us))):AK P C Q pt ks Y:=by
 subst he;exact AK.weaken (λa w h=>R.denilA O h) k
def QnT {α:Type}{f:α->L_ V}{n:Nat}{x:α}{r:L_ V}{ms:L_ (O_ Nat)}(h:EB ms r=f x):(List.replicate n r).map (EB ms)=(List.replicate n x).map f:=by simp[h]
end
def QzN {p:Prop}{f:Code->Prop}{q:Nat}(h:(q==0)=true)(k:p):atJ p f (jmp q):=by rw[eq_of_beq h];exact k
def QBv {p:Prop}{f:Code->Prop}{q:Nat}(h:(q==2)=true)(k:f .ret):atJ p f (jmp q):=by rw[eq_of_beq h];exact k
def rfs : Code->L_ (Array Tmp×Code×Code)
 |.seq x y=>rfs x++rfs y|.cond _ x y=>rfs x++rfs y|.block _ x=>rfs x|.loop x=>rfs x|.rangeFunc _ h a b=>[(h,a,b)]|_=>[]
def QzO (f:Func)(k fn:Nat):HP:=match f.body with
 |some c=>match (rfs c)[k]? with|some (h,a,b)=>⟨fn,h,a,b⟩|none=>⟨fn,#[],.skip,.skip⟩
 |none=>⟨fn,#[],.skip,.skip⟩
def yV (P:Program)(Y:St)(l d:Nat)(K:HP)(vs:L_ V)(M N:L_ (Nat×Nat))(dead:L_ Nat)(ms:L_ Mode)(outs:H_)(r:V):O_ (St×Prop):=
 bif Ug Y M N dead outs&&Ik (M.map Prod.fst)&&Ik (N.map Prod.fst)then match Vs (UO M) ms vs with
  |some us=>match Nm (UO M) (look Y.hp) M with
   |some h=>match Nm (UO N) (look outs) N with
    |some O=>match trV (UO N) r with|some r'=>X ((Y.after dead O).put d r',Qbo P l K us h (Gives r outs))|none=>n_
    |none=>n_
   |none=>n_
  |none=>n_
 else n_
section
variable {P:Program}{C:XC}{Y σ':St}{o:Oper}
def Qf.yieldV {d b l:Nat}{K:HP}{cs:L_ V}{q:Nat}{x:Operand}{O:Array Operand}{ts:Array TypeId}{M N:L_ (Nat×Nat)}{dead:L_ Nat}{outs:H_}{vs us:L_ V}{ms:L_ Mode}{r:V}{Z:Prop}(ho:o.op=.call { callee:=.value x,args:=O,argTypes:=ts })
  (hx:Y.opd x=X (.clo (.yield l) [] [])) (hlp:look Y.hp b=X (.lp l K cs q)) (hq:q=0) (ha:Y.opsV O.toList=X vs) (hps:vs.length=K.ps.size) (hd:o.dst=X d) (hn:B_ d C) (hpg:C.pg P)
  (hu:QnS cs K.ps.toList vs=us) (e:yV P Y l d K us M N dead ms outs r=X (σ',Z)) (hφ:Z):Qf P C o Y σ':=by
 unfold yV at e;replace e:=Yn e;obtain⟨e1,e⟩:=e;simp only[QN]at e1;obtain⟨⟨h1,h2⟩,h3⟩:=e1;have h2:=ED.1 h2;have h3:=ED.1 h3;have inj:OG M=true/\OG N=true:=by
  simp only[Ug,QN]at h1;exact⟨h1.1.1.1,h1.1.1.2⟩
 have mM:∀a b,UO M a=X b->look M b=X a:=λa b h=>Dc inj.1 (MZ h) h2;have mN:∀a b,UO N a=X b->look N b=X a:=λa b h=>Dc inj.2 (MZ h) h3;split at e
 ·rename_i us hus;split at e
  ·rename_i hsC hC;split at e
   ·rename_i hsN hN;split at e
    ·rename_i r' hr;cases e;subst hu;exact Qf.yield ho hx hlp hq ha hps hd hn hpg h1 h2 (Se mM hus) (UR mM hC) hφ (UR mN hN) (TW mN hr)
    cases e
   cases e
  cases e
 cases e
end
section
variable {P:Program}{C:XC}{Z:Nat->O_ Xh}{Y:St}{a:Act}{w:World}{o:Oper}
def Qh6 {zc:Array Value}{z m i:Nat}(O:zc.size=z)(h0:0<z)(h:i<m*z):(Builtin.zeroCells zc m).toList[i]? = zc[i % z]? := by
 have h2:i % z<zc.size:=by rw[O];exact Nat.mod_lt _ h0
 simp only[Builtin.zeroCells,O,Array.toList_map,Array.toList_range,Yj,List.getElem?_range h,Gq,Array.getElem!_eq_getD,QfA,AV h2,QcZ]
def RR.clearTail {b n l z e:Nat}{rs:L_ (L_ V)}{zs:L_ V}{zv:Value}{B:Xh}(hr:RR C Z Y a w)(hb:look Y.hp b=X (.arr z rs))(hrn:rs.length=n)(hB:Z b=X B)(hzs:zv.cells.toList.map Fu=zs)(hzl:zs.length=z)(h0:0<z)(hzo:zs.all V.one=true)
  (hln:l<=n):∃w',(storeCells ⟨B.b,B.off+l*z,n_⟩ (Builtin.zeroCells zv.cells (n-l)).toList).run P w=.ok () w'/\RR C Z (Y.set b (.arr z (rs.take l++List.replicate (n-l) zs))) a w':=by
 obtain⟨hz,hrl,hok,xs,E,e1,e2,e3⟩:=hr.block hB hb;subst hz;have hcs:zv.cells.size=B.z:=by rw[<-hzl,<-hzs];simp
 rw[XS]at hzo;have O:(Builtin.zeroCells zv.cells (n-l)).toList.length=(n-l)*B.z:=by simp[Builtin.zeroCells,hcs]
 have hmul:l*B.z+(n-l)*B.z=n*B.z:=by rw[<-Je];congr 1;omega
 have hnc:n*B.z<=B.cap*B.z:=Jr _ (by omega);have hone:∀v∈(Builtin.zeroCells zv.cells (n-l)).toList,v.oneCell'=true:=by
  intro v hv;obtain⟨i,hi⟩:=NH.1 hv;have hil:i<(n-l)*B.z:=by rw[<-O];exact(Xf.1 hi).1
  rw[Qh6 hcs h0 hil]at hi;have hm:(Fu v)∈zs:=by rw[<-hzs];exact List.mem_map_of_mem (QgW.2 (Array.mem_of_getElem? hi))
  exact((QW.dat (Z:=Z) (I:=λ_=>True) (w:=w) (XG.const v)).oneCell (hzo _ hm)).2
 generalize hZ:(Builtin.zeroCells zv.cells (n-l)).toList=φ at O hone;have hrun:=run_storeCells_at P B.b (B.off+l*B.z) E φ 0 xs w e1 (by rw[O];omega) hone;simp only[My]at hrun;refine⟨_,hrun,?_⟩;have hl1:(xs.toList.take (B.off+l*B.z)++φ++xs.toList.drop (B.off+l*B.z+φ.length)).length=xs.size:=by simp[O];omega
 refine hr.write hB rfl rfl rfl (by simp) (λk hk=>setRow_other w B.b k _ hk) ⟨rfl,by simp;omega,?_,_,E,setRow_heap w B.b xs _ E _ e1,?_,?_⟩
 ·intro r' hr';rcases YT.1 hr' with h|h
  ·exact hok r' (FQ h)
  rw[QaS h];exact⟨hzl,hzo⟩
 ·simp only[Qbi,hl1];exact e2
 have hI:∀k,Xp C Z w k->Xp C Z (w.setRow B.b (xs.toList.take (B.off+l*B.z)++φ++xs.toList.drop (B.off+l*B.z+φ.length)).toArray) k/\
   (w.setRow B.b (xs.toList.take (B.off+l*B.z)++φ++xs.toList.drop (B.off+l*B.z+φ.length)).toArray).heap[k]? = w.heap[k]?:=
  λk hk=>⟨⟨by simpa using hk.1,hk.2⟩,setRow_other w B.b k _ λe=>hk.2.2 b B hB (.inl e)⟩
 intro i r hi j v hj;by_cases hil:i<l
 ·rw[Jh (by simp;omega),Kd,if_pos hil]at hi;obtain⟨y,hy,hD⟩:=e3 i r hi j v hj;have hjz:j<B.z:=by rw[<-(hok r (XB hi)).1];exact(Xf.1 hj).1
  have hlt:i*B.z+j<l*B.z:=by
   have:(i+1)*B.z<=l*B.z:=Jr _ hil;rw[Je]at this;omega
  refine⟨y,?_,hD.mono hI⟩;have hyl:=(Cg.1 hy).1;rw[CS,Kh,Jh (by simp;omega),Kd,if_pos (by omega)];simpa using hy
 rw[Kc (by simp;omega)]at hi;simp only[Kv,hrn,OB hln]at hi;rw[List.getElem?_replicate]at hi;split at hi
 ·rename_i hin;cases hi;have hjz:j<B.z:=by rw[<-hzl];exact(Xf.1 hj).1
  rw[<-hzs,Yj]at hj;obtain⟨y,hy,rfl⟩:=Yo.1 hj;refine⟨y,?_,XG.const y⟩;have hidx:(i-l)*B.z+j<(n-l)*B.z:=by
   have:(i-l+1)*B.z<=(n-l)*B.z:=Jr _ hin;rw[Je]at this;omega
  have hsum:i*B.z=l*B.z+(i-l)*B.z:=by rw[<-Je];congr 1;omega
  rw[CS,Kh,Kc (by simp;omega),Jh (by simp[O];omega)];have:B.off+(i*B.z+j)-(xs.toList.take (B.off+l*B.z)).length=(i-l)*B.z+j:=by simp;omega
  rw[this,<-hZ,Qh6 hcs h0 hidx];have hm:((i-l)*B.z+j) % B.z=j:=by rw[Nat.add_comm,Nat.add_mul_mod_self_right,Nat.mod_eq_of_lt hjz]
  rw[hm];simpa using hy
 cases hi
def AK.clearTail {Q:Exit->St->Prop}{ks:L_ Fr}{ops:Array Oper}{rest:L_ Oper}{o1 o2:Oper}{T d b n l z e by_:Nat}{x lo:Operand}{rs us:L_ (L_ V)}{zs:L_ V}(hg1:o1.guard=n_)(hg2:o2.guard=n_)
  (ho1:o1.op=.slice T x (X lo) n_ n_) (hd1:o1.dst=X d) (ho2:o2.op=.call { callee:=.builtin .clear,args:=#[.tmp d],argTypes:=#[T] }) (hd2:o2.dst=n_) (hn:B_ d C)
  (hx:Y.opd x=X (.own b n)) (hb:look Y.hp b=X (.arr z rs)) (hrn:rs.length=n) (hT:YD P T=X (e,z,by_)) (hz:XY P e=X zs) (hzl:zs.length=z) (h0:Nat.ble 1 z=true) (hzo:zs.all V.one=true) (hl:GL Y 0 (X lo) l) (hln:l<=n)
  (hu:rs.take l++List.replicate (n-l) zs=us) (k:AK P C Q (.o ops rest) ks ((Y.set b (.arr z us)).put d .J)):AK P C Q (.o ops (o1::o2::rest)) ks Y:=by
 intro a w ⟨Z,hr⟩;subst hu;have h0:=JC h0;obtain⟨hu,i,hi',hiz,_⟩:=KI hT;obtain⟨i',zv,hi2,hz',hzs⟩:=FU hz;have key:∃x1 w',(execOp a.eval o1).run P w=.ok (.value x1) w/\(Builtin.clear_ #[T] o2.type #[x1]).run P w=.ok (.tuple #[]) w'/\RR C Z (Y.set b (.arr z (rs.take l++List.replicate (n-l) zs))) a w':=by
  rcases(hr.opd hx).own_inv with⟨he,rfl⟩|⟨B,hB,hcap,he⟩
  ·have l0:l=0:=by omega
   subst l0;have:rs=[]:=HO.1 hrn;subst this;refine⟨.slice n_ 0 0,w,?_,?_,hr.sayOb (ob':=.arr z []) hb (λ_ _ h=>h) (.inl rfl)⟩
   ·have O:=Pu (P:=P) (b:=true) hr hl (.no (dflt:=0)) (by omega) (by omega:0<=0);simp only[Gq,Qbj]at O;simp[execOp,ho1,he,Instr.sliceAt,Instr.slice,run_underlying hu,O,sizeOf,typeInfo,hi']
   simp[Builtin.clear_,run_underlying hu]
  have O:=Pu (P:=P) (b:=true) hr hl (.no (dflt:=n)) hln (by omega:n<=B.cap);simp only[Gq,Qbj]at O;by_cases hcl:B.cap=l
  ·have hln2:n-l=0:=by omega
   refine⟨.slice (X ⟨B.b,B.off,n_⟩) 0 0,w,?_,?_,?_⟩
   ·simp only[execOp,ho1,he,Instr.sliceAt,Instr.slice,run_underlying hu,O,sizeOf,typeInfo,hi',Xl,Xx,run_program,Xo,Gq,Qbj];simp[hcl];omega
   ·simp[Builtin.clear_,run_underlying hu]
   rw[hln2,List.replicate_zero,Qcr,YV (by omega)];exact hr.sayOb hb (λ_ _ h=>h) (.inl rfl)
  obtain⟨w',hw,hr'⟩:=hr.clearTail (P:=P) (l:=l) (e:=e) hb hrn hB hzs hzl h0 hzo hln;refine⟨.slice (X ⟨B.b,B.off+l*z,n_⟩) (n-l) (B.cap-l),?_⟩;have hex:(execOp a.eval o1).run P w=.ok (.value (.slice (X ⟨B.b,B.off+l*z,n_⟩) (n-l) (B.cap-l))) w:=by
   simp only[execOp,ho1,he,Instr.sliceAt,Instr.slice,run_underlying hu,O,sizeOf,typeInfo,hi',Xl,Xx,run_program,Xo,Gq,Qbj,if_neg hcl,hiz,Addr.add_lit]
  by_cases hnl:n-l=0
  ·refine⟨w,hex,?_,?_⟩
   ·rw[hnl];simp[Builtin.clear_,run_underlying hu]
   rw[hnl,List.replicate_zero,Qcr,YV (by omega)];exact hr.sayOb hb (λ_ _ h=>h) (.inl rfl)
  refine⟨w',hex,?_,hr'⟩;obtain⟨m,hm⟩:∃m,n-l=m+1:=⟨n-l-1,by omega⟩;rw[hm]at hw ⊢;rw[hi2]at hi';cases hi';simp only[Builtin.clear_,Xl,run_underlying hu,Xo,Xx,zeroValue,typeInfo,run_program,hi2,hz',CS,List.getElem?_cons_zero];simp[hw,hz']
 obtain⟨x1,w',hex,hcl,hr'⟩:=key;have hput:∀t,(a.put (X d) x1).tmps[t]? = if t=d then(if d<a.tmps.size then X x1 else n_)else a.tmps[t]? := λt=>by
  simp only[Act.put,QfB];by_cases e:d=t
  ·subst e;simp
  simp[e,Ne.symm e]
 have hev:(a.put (X d) x1).eval (.tmp d)=x1:=by
  have hlt:d<a.tmps.size:=by rw[hr.tmps];exact XT hn
  simp[Act.eval,Act.put,QfA,QfB,hlt]
 have hex2:(execOp (a.put (X d) x1).eval o2).run P w=.ok (.value (.tuple #[])) w':=by
  simp only[execOp,ho2,resolve,invoke,builtin,Xl,Xx,Xo,List.map_toArray,GC,List.map_nil,hev,hcl]
 show wpListIn C.F 0 P ops (up C (unw P C Q ks)) (o1::o2::rest) a w;simp only[wpListIn,Region.wanted,hg1,if_true];refine⟨λ_ _=>trivial,?_⟩;rw[QiO hex,Oper.uponIn_value,hd1];simp only[wpListIn,Region.wanted,hg2,if_true];refine⟨λ_ _=>trivial,?_⟩;rw[QiO hex2,Oper.uponIn_value,hd2];exact k _ _ ⟨Z,hr'.put (XT hn) (.dat (.J x1))⟩
def QzP {α:Type}{f:α->L_ V}{e:L_ α}{l k:Nat}{zs:L_ V}{x:α}{ms:L_ (O_ Nat)}(h:∀y,EB ms (f y)=f y)(O:EB ms zs=f x):((e.map f).take l++List.replicate k zs).map (EB ms)=(e.take l++List.replicate k x).map f:=by
 have h3:EB ms∘f=f:=funext h;simp[List.map_take,O,h3]
def Qv9 {α:Type}{b l:Nat}{e:L_ α}{x:α}(h:l<=e.length):V.own b e.length=V.own b (e.take l++List.replicate (e.length-l) x).length:=by
 congr 1;simp;omega
end
end Go.Vm
namespace Go.Vm
open Go Go.RowKit Go.Proofs Go.Sort Go.Shelf
open Option renaming some→X,none→n_
open Bool renaming true→t_,false→f_
def Px (l:L_ Int):L_ Int:=l.mergeSort λx y=>decide (x<=y)
def No (x:Int):L_ V:=[V.i .i64 x]
def QqY (l:L_ Int):(Px l).length=l.length:=List.length_mergeSort ..
def QtL {P:Program}{ρ:Ren}(Ly:Lays.n189 P ρ)(zs:L_ Int)(hz:zs.length<4611686018427387904):
  QX P (ρ.f 189) [.own 621 zs.length] [(621,.arr 1 (zs.map No))] (Gives (.tup []) [(621,.arr 1 ((Px zs).map No))]):=by
 intro S Z w vals hi _;have hs:=hi.size;obtain⟨v0,hv0⟩:∃v0,vals=#[v0]:=by
  obtain⟨l⟩:=vals
  match l,hs with|[x],_=>exact⟨x,rfl⟩
 subst hv0;have ha:=hi.args 0 v0 _ rfl rfl;rcases ha.own_inv with⟨hx,hn⟩|⟨B,hB,hn,hx⟩
 ·have h0:zs=[]:=QnG hn;subst h0;subst hx;refine(Any.slices_Sort_int_none Ly n_ 0 w).mono ?_;rintro e w' ⟨rfl,rfl⟩;refine⟨.tuple #[],.tup [],[(621,.arr 1 [])],Z,rfl,⟨rfl,λc ob h=>by simpa[Px] using h⟩,rfl,rfl,rfl,Yk _,λ_ _ _=>rfl,hi.inj,λo B h=>?_,λo B k h O=>?_,λo B k h O hlt=>?_,⟨λo B _ h=>h,λo ob B _ _ h=>h⟩,.dat (.tup _ _ rfl λj x v h=>by simp at h),λo ob h=>?_⟩
  ·obtain⟨_,_,ob,hob⟩:=hi.dom o B h;exact⟨ob,hob⟩
  ·obtain⟨_,h2,_⟩:=hi.dom o B h;exact⟨(h2 k O).1,λ_=>⟨o,B,h,O⟩⟩
  ·obtain⟨h1,_,_⟩:=hi.dom o B h;omega
  have hS:∀k,S k->Aft S Z w' w' k/\w'.heap[k]? = w'.heap[k]? := λk O=>⟨⟨hi.lt k O,λ_=>O,λo B h hb=>((hi.dom o B h).2.1 k hb).2 O⟩,rfl⟩;rcases hi.heap o ob h with⟨B,hB,hr⟩|hn
  ·exact .inl ⟨B,hB,hr.mono (λ_ _ h=>h) hS λ_ _=>rfl⟩
  exact .inr hn
 subst hx;have hob:KH Z S w B (.arr 1 (zs.map No)):=by
  rcases hi.heap 621 _ (QD _ _ _)with⟨B',hB',hr⟩|⟨hn',_⟩
  ·rw[hB]at hB';cases hB';exact hr
  rw[hB]at hn';cases hn'
 obtain⟨hz1,hle,hok,cs,E,hb,hsz,hcell⟩:=hob;have hlt:B.b<w.heap.size:=((hi.dom _ _ hB).2.1 _ B.self).1;have hrow:∀(l:L_ Int) (i:Nat) (x:Int),l[i]? = X x->(l.map No)[i]? = X (No x):=λl i x h=>by rw[Yj,h];rfl
 have hc:∀(i:Nat) x,zs[i]? = X x->cs[B.off+i]? = X (.int .i64 x):=λi x h=>by
  obtain⟨y,hy,hd⟩:=hcell i _ (hrow _ i x h) 0 (.i .i64 x) rfl;rw[show i*1+0=i by omega]at hy;rw[hy];cases hd;rfl
 have hH:Holds (Value.int .i64) w B.b B.off zs.toArray:=λj hj=>by
  have hj':j<zs.length:=by simpa using hj
  have h1:=hc j zs[j] (Qv hj');have h2:zs.toArray[j]! = zs[j]:=by simp[hj']
  refine⟨?_,?_⟩
  ·rw[h2];simp[World.cell?,hb,h1]
  simp[World.frozen?,hb]
 refine(Any.slices_Sort_int Ly B.b B.off B.cap zs w hH hlt hz).mono ?_;rintro e w' ⟨rfl,n,os,rfl⟩;have hh:∀k,k<w.heap.size->(grow (putRow (Value.int .i64) (Sort.ahead w n) B.b B.off (Px zs).toArray) os).heap[k]? = (w.heap.modify B.b (onCells (putCells (Value.int .i64) B.off (Px zs).toArray)))[k]? := λk O=>by
  rw[heap_grow_old _ _ (by rw[size_putRow];exact O)];rfl
 have ho:∀k,k<w.heap.size->k≠B.b->(grow (putRow (Value.int .i64) (Sort.ahead w n) B.b B.off (Px zs).toArray) os).heap[k]? = w.heap[k]? := λk O hne=>by
  rw[hh k O,Qsj,if_neg (Ne.symm hne)]
 have hsize:w.heap.size<=(grow (putRow (Value.int .i64) (Sort.ahead w n) B.b B.off (Px zs).toArray) os).heap.size:=by
  rw[size_grow,size_putRow];exact Nat.le_add_right _ _
 have hme:(grow (putRow (Value.int .i64) (Sort.ahead w n) B.b B.off (Px zs).toArray) os).heap[B.b]? = X (.cells (putCells (Value.int .i64) B.off (Px zs).toArray cs) E (0,0)):=by
  rw[hh _ hlt,Qsj,if_pos rfl,hb];rfl
 have hall:∀o' B',Z o'=X B'->o'=621:=λo' B' h'=>by
  obtain⟨_,_,ob,hob⟩:=hi.dom o' B' h';by_cases e:621=o'
  ·exact e.symm
  rw[QA _ _ e]at hob;cases hob
 refine⟨.tuple #[],.tup [],[(621,.arr 1 ((Px zs).map No))],Z,rfl,⟨rfl,λc ob h=>h⟩,rfl,rfl,rfl,hsize,λk O hno=>?_,hi.inj,λo B h=>?_,λo B k h O=>?_,λo B k h O hl=>?_,⟨λo B _ h=>h,λo ob B _ _ h=>h⟩,.dat (.tup _ _ rfl λj x v h=>by simp at h),λo ob h=>?_⟩
 ·exact ho k O λe=>hno 621 B hB (e▸B.self)
 ·rw[hall o B h];exact⟨_,QD _ _ _⟩
 ·obtain⟨_,h2,_⟩:=hi.dom o B h;exact⟨Ez (h2 k O).1 hsize,λ_=>⟨o,B,h,O⟩⟩
 ·obtain⟨h1,_,_⟩:=hi.dom o B h;omega
 by_cases e:621=o
 ·subst e;rw[QD]at h;cases h;refine .inl ⟨B,hB,hz1,?_,?_,_,E,hme,?_,?_⟩
  ·rw[Dx,QqY];rw[Dx]at hle;exact hle
  ·intro r hr;obtain⟨x,_,rfl⟩:=Yt.1 hr;exact⟨rfl,λv hv=>by simp[No]at hv;subst hv;rfl⟩
  ·simpa[putCells] using hsz
  intro i r hi' j v hj;rw[Yj]at hi';obtain⟨x,hx,rfl⟩:=Yo.1 hi';have hil:i<(Px zs).length:=(Xf.1 hx).1;have hil':i<zs.length:=by rw[QqY]at hil;exact hil
  match j,hj with
  |0,hj=>
   cases hj;refine⟨.int .i64 x,?_,.i _ _⟩;rw[show i*1+0=i by omega];have h1:=hc i zs[i] (Qv hil');have h2:(Px zs).toArray[i]! = x:=by
    have:=Xf.1 hx;obtain⟨h3,h4⟩:=this;simp[h3,h4]
   simp only[putCells,Array.getElem?_mapIdx,h1,Gq];rw[if_pos ⟨by omega,by simp;omega⟩,show B.off+i-B.off=i by omega,h2]
  |j+1,hj=>simp[No]at hj
 rw[QA _ _ e]at h;cases h
def QpS (x:Int):L_ Int->L_ Int
 |[]=>[x]|y::l=>bif decide (x<=y)then x::y::l else y::QpS x l
def El : L_ Int->L_ Int
 |[]=>[]|x::l=>QpS x (El l)
def QqZ (x:Int)(l:L_ Int):(QpS x l).Perm (x::l):=by
 induction l with
 |nil=>exact .refl _|cons y l h=>
  rw[QpS];cases decide (x<=y)with|true=>exact .refl _|false=>exact(h.cons y).trans (.swap x y l)
def QyT {x:Int}{l:L_ Int}(h:l.Pairwise (·<=·)):(QpS x l).Pairwise (·<=·):=by
 induction l with
 |nil=>exact Qka _ _|cons y l ih=>
  obtain⟨h1,h2⟩:=Bu.1 h;rw[QpS];cases c:decide (x<=y)with
  |true=>
   have c:=Xe c;refine Bu.2 ⟨λz O=>?_,h⟩;rcases XP.1 O with rfl|O
   ·exact c
   have:=h1 z O;omega
  |false=>
   have c:=of_decide_eq_false c;refine Bu.2 ⟨λz O=>?_,ih h2⟩;rcases XP.1 ((QqZ x l).mem_iff.1 O)with rfl|O
   ·omega
   exact h1 z O
def Qhr (l:L_ Int):(El l).Perm l:=by
 induction l with|nil=>exact .refl _|cons x l h=>exact(QqZ x _).trans (h.cons x)
def Qls (l:L_ Int):(El l).Pairwise (·<=·):=by
 induction l with|nil=>exact List.Pairwise.nil|cons x l h=>exact QyT h
def Qhs (l:L_ Int):El l=l.mergeSort λx y=>decide (x<=y):=by
 refine List.Perm.eq_of_pairwise (le:=λx y:Int=>x<=y) (λa b _ _ O h2=>by omega) (Qls l) ?_ ((Qhr l).trans (List.mergeSort_perm l _).symm);exact(List.pairwise_mergeSort (le:=λx y:Int=>decide (x<=y)) (λa b c O h2=>by simp at *;omega) (λa b=>by simp;omega) l).imp λh=>by simpa using h
def EX (l:L_ Int):(El l).length=l.length:=(Qhr l).length_eq
def QtM {P:Program}{ρ:Ren}(O:Lays.n189 P ρ)(zs:L_ Int)(hz:zs.length<4611686018427387904):
  QX P (ρ.f 189) [.own 621 zs.length] [(621,.arr 1 (zs.map No))] (Gives (.tup []) [(621,.arr 1 ((El zs).map No))]):=by
 have h:=QtL O zs hz;rw[show Px zs=El zs from(Qhs zs).symm]at h;exact h
def EE (l:L_ Int):L_ Int:=Lib.compact l
def QtN {P:Program}{ρ:Ren}(Ly:Lays2.n20 P ρ)(zs:L_ Int)(hz:zs.length<4611686018427387904):
  QX P (ρ.f 20) [.own 621 zs.length] [(621,.arr 1 (zs.map No))] (Gives (.own 621 (EE zs).length) [(621,.arr 1 ((EE zs).map No))]):=by
 intro S Z w vals O _;have hs:=O.size;obtain⟨v0,hv0⟩:∃v0,vals=#[v0]:=by
  obtain⟨l⟩:=vals
  match l,hs with|[x],_=>exact⟨x,rfl⟩
 subst hv0;have ha:=O.args 0 v0 _ rfl rfl;have hall:∀o' B',Z o'=X B'->o'=621:=λo' B' h'=>by
  obtain⟨_,_,ob,hob⟩:=O.dom o' B' h';by_cases e:621=o'
  ·exact e.symm
  rw[QA _ _ e]at hob;cases hob
 rcases ha.own_inv with⟨hx,hn⟩|⟨B,hB,hn,hx⟩
 ·have h0:zs=[]:=QnG hn;subst h0;subst hx;have hc0:EE []=[]:=by simp[EE,Lib.compact,Lib.compactUpTo]
  rw[hc0];refine(Any.slices_Compact_int_empty Ly n_ 0 w).mono ?_;rintro e w' ⟨rfl,rfl⟩;refine⟨.slice n_ 0 0,.own 621 0,[(621,.arr 1 [])],Z,rfl,⟨rfl,λc ob h=>h⟩,rfl,rfl,rfl,Yk _,λ_ _ _=>rfl,O.inj,λo B h=>?_,λo B k h hk=>?_,λo B k h hk hlt=>?_,⟨λo B _ h=>h,λo ob B _ _ h=>h⟩,.own0 _,λo ob h=>?_⟩
  ·obtain⟨_,_,ob,hob⟩:=O.dom o B h;exact⟨ob,hob⟩
  ·obtain⟨_,h2,_⟩:=O.dom o B h;exact⟨(h2 k hk).1,λ_=>⟨o,B,h,hk⟩⟩
  ·obtain⟨h1,_,_⟩:=O.dom o B h;omega
  have hS:∀k,S k->Aft S Z w' w' k/\w'.heap[k]? = w'.heap[k]? := λk hk=>⟨⟨O.lt k hk,λ_=>hk,λo B h hb=>((O.dom o B h).2.1 k hb).2 hk⟩,rfl⟩;rcases O.heap o ob h with⟨B,hB,hr⟩|hn
  ·exact .inl ⟨B,hB,hr.mono (λ_ _ h=>h) hS λ_ _=>rfl⟩
  exact .inr hn
 subst hx;have hob:KH Z S w B (.arr 1 (zs.map No)):=by
  rcases O.heap 621 _ (QD _ _ _)with⟨B',hB',hr⟩|⟨hn',_⟩
  ·rw[hB]at hB';cases hB';exact hr
  rw[hB]at hn';cases hn'
 obtain⟨hz1,hle,hok,cs,E,hb,hsz,hcell⟩:=hob;have hlt:B.b<w.heap.size:=((O.dom _ _ hB).2.1 _ B.self).1;have hrow:∀(l:L_ Int) (i:Nat) (x:Int),l[i]? = X x->(l.map No)[i]? = X (No x):=λl i x h=>by rw[Yj,h];rfl
 have hc:∀(i:Nat) x,zs[i]? = X x->cs[B.off+i]? = X (.int .i64 x):=λi x h=>by
  obtain⟨y,hy,hd⟩:=hcell i _ (hrow _ i x h) 0 (.i .i64 x) rfl;rw[show i*1+0=i by omega]at hy;rw[hy];cases hd;rfl
 have hH:Holds (Value.int .i64) w B.b B.off zs.toArray:=λj hj=>by
  have hj':j<zs.length:=by simpa using hj
  have h1:=hc j zs[j] (Qv hj');have h2:zs.toArray[j]! = zs[j]:=by simp[hj']
  refine⟨?_,?_⟩
  ·rw[h2];simp[World.cell?,hb,h1]
  simp[World.frozen?,hb]
 have hcl:(EE zs).length<=zs.length:=by
  unfold EE Lib.compact Lib.compactUpTo;rw[Dx];exact Yq (Vo _ _) (by simp)
 refine(Any.slices_Compact_int Ly B.b B.off B.cap zs w hH (by omega) hn).mono ?_;rintro e w' ⟨rfl,n,rfl⟩;change ∃x v hs' φ',Ending.returned (.slice (X ⟨B.b,B.off,n_⟩) (EE zs).length B.cap)=.returned x/\_/\Outs S Z w φ' (putRow (Value.int .i64) (Sort.ahead w n) B.b B.off (EE zs++List.replicate (zs.length-(EE zs).length) 0).toArray) x v hs';generalize hD:(EE zs++List.replicate (zs.length-(EE zs).length) 0).toArray=D;have hDs:D.size=zs.length:=by subst hD;simp;omega
 have hh:∀k:Nat,(putRow (Value.int .i64) (Sort.ahead w n) B.b B.off D).heap[k]? = (w.heap.modify B.b (onCells (putCells (Value.int .i64) B.off D)))[k]? := λk=>rfl;have ho:∀k:Nat,k≠B.b->(putRow (Value.int .i64) (Sort.ahead w n) B.b B.off D).heap[k]? = w.heap[k]? := λk hne=>by
  rw[hh k,Qsj,if_neg (Ne.symm hne)]
 have hsize:w.heap.size<=(putRow (Value.int .i64) (Sort.ahead w n) B.b B.off D).heap.size:=by
  rw[size_putRow];exact Yk _
 have hme:(putRow (Value.int .i64) (Sort.ahead w n) B.b B.off D).heap[B.b]? = X (.cells (putCells (Value.int .i64) B.off D cs) E (0,0)):=by
  rw[hh _,Qsj,if_pos rfl,hb];rfl
 refine⟨_,.own 621 (EE zs).length,[(621,.arr 1 ((EE zs).map No))],Z,rfl,⟨rfl,λc ob h=>h⟩,rfl,rfl,rfl,hsize,λk hk hno=>?_,O.inj,λo B h=>?_,λo B k h hk=>?_,λo B k h hk hl=>?_,⟨λo B _ h=>h,λo ob B _ _ h=>h⟩,.own _ _ B hB (by omega),λo ob h=>?_⟩
 ·exact ho k λe=>hno 621 B hB (e▸B.self)
 ·rw[hall o B h];exact⟨_,QD _ _ _⟩
 ·obtain⟨_,h2,_⟩:=O.dom o B h;exact⟨Ez (h2 k hk).1 hsize,λ_=>⟨o,B,h,hk⟩⟩
 ·obtain⟨h1,_,_⟩:=O.dom o B h;omega
 by_cases e:621=o
 ·subst e;rw[QD]at h;cases h;refine .inl ⟨B,hB,hz1,?_,?_,_,E,hme,?_,?_⟩
  ·rw[Dx];omega
  ·intro r hr;obtain⟨x,_,rfl⟩:=Yt.1 hr;exact⟨rfl,λv hv=>by simp[No]at hv;subst hv;rfl⟩
  ·simpa[putCells] using hsz
  intro i r hi' j v hj;rw[Yj]at hi';obtain⟨x,hx,rfl⟩:=Yo.1 hi';have hil:i<(EE zs).length:=(Xf.1 hx).1;have hil':i<zs.length:=by omega
  match j,hj with
  |0,hj=>
   cases hj;refine⟨.int .i64 x,?_,.i _ _⟩;rw[show i*1+0=i by omega];have h1:=hc i zs[i] (Qv hil');have h2:D[i]! = x:=by
    subst hD;rw[getElem!_pos _ i (by simp;omega)];obtain⟨h3,h4⟩:=Xf.1 hx;simp[List.getElem_append,h3,h4]
   simp only[putCells,Array.getElem?_mapIdx,h1,Gq];rw[if_pos ⟨by omega,by omega⟩,show B.off+i-B.off=i by omega,h2]
  |j+1,hj=>simp[No]at hj
 rw[QA _ _ e]at h;cases h
def QsH (s:ByteArray):Bool:=decide (s.size<4294967281)&&s.data.toList.all λb=>decide (b.toNat<128)
def Fy (s:ByteArray):L_ ByteArray:=(Lib.fields s.data.toList).map λl=>⟨l.toArray⟩
def QrC {P:Program}{ρ:Ren}(Ly:Lays.n157 P ρ)(hi9:(P.info? (ρ.t 9)).map (fun i=>(i.zero,i.size,i.bytes))=some (some (.string ByteArray.empty),1,16))(hg:P.globalNamed "strings.asciiSpace" = some (ρ.g 0))(s:ByteArray)(hs:QsH s=true):
  QX P (ρ.f 157) [.s s] [] (Gives (.own 600 (Fy s).length) [(600,.arr 1 ((Fy s).map λx=>[V.s x]))]):=by
 intro S Z w vals hi hG;have hsz:=hi.size;obtain⟨v0,hv0⟩:∃v0,vals=#[v0]:=by
  obtain⟨l⟩:=vals
  match l,hsz with|[x],_=>exact⟨x,rfl⟩
 subst hv0;have ha:=(hi.args 0 v0 _ rfl rfl).s_inv;subst ha;unfold QsH at hs;rw[QN,decide_eq_true_iff,XS]at hs;obtain⟨hs1,hs2⟩:=hs;obtain⟨_,hl,hT⟩:=hG _ hg;have hno:∀o B,Z o≠X B:=λo B h=>by obtain⟨_,_,ob,hob⟩:=hi.dom o B h;cases hob
 refine(Any.strings_Fields_core Ly hi9 s w hs1 (λj b hb=>by simpa using hs2 b (XB hb)) hT).mono ?_;rintro e w' ⟨rfl,rfl⟩;have hlen:(Lib.fields s.data.toList).length=(Fy s).length:=by unfold Fy;simp
 rw[hlen];generalize hO:Obj.cells ((Lib.fields s.data.toList).map λl=>Value.string ⟨l.toArray⟩).toArray (ρ.t 9)=O;have hme:(w.alloc O).heap[w.heap.size]? = X O:=World.alloc_heap_new _ _;have hold:∀k,k<w.heap.size->(w.alloc O).heap[k]? = w.heap[k]? := λk hk=>Below.heap_alloc w O k hk;have hsize:(w.alloc O).heap.size=w.heap.size+1:=by simp
 have hφ:∀o B,(ext (λ_=>n_) 600 ⟨w.heap.size,(Fy s).length,1,[],0⟩) o=X B->o=600/\B=⟨w.heap.size,(Fy s).length,1,[],0⟩:=λo B h=>by
  unfold ext at h;split at h
  ·rename_i e;exact⟨e,(Option.some.inj h).symm⟩
  cases h
 have hhas:∀k,(⟨w.heap.size,(Fy s).length,1,[],0⟩:Xh).has k->k=w.heap.size:=λk hk=>QcT hk;refine⟨_,.own 600 (Fy s).length,[(600,.arr 1 ((Fy s).map λx=>[V.s x]))],ext (λ_=>n_) 600 ⟨w.heap.size,(Fy s).length,1,[],0⟩,rfl,⟨rfl,λc ob h=>h⟩,rfl,rfl,rfl,by rw[hsize];omega,λk hk _=>hold k hk,λo o' B B' k h1 h2 _ _=>by rw[(hφ o B h1).1,(hφ o' B' h2).1],λo B h=>?_,λo B k h hk=>?_,λo B k h hk _=>?_,⟨λo B h1 h2=>by obtain⟨rfl,_⟩:=hφ o B h2;omega,λo ob B _ h2 h3=>absurd h3 (hno o B)⟩,.own _ _ _ (XQ _ _ _) (Yk _),λo ob h=>?_⟩
 ·rw[(hφ o B h).1];exact⟨_,QD _ _ _⟩
 ·obtain⟨_,rfl⟩:=hφ o B h;have:=hhas k hk;rw[hsize];exact⟨by omega,λh=>by omega⟩
 ·obtain⟨_,rfl⟩:=hφ o B h;have:=hhas k hk;omega
 by_cases e:600=o
 ·subst e;rw[QD]at h;cases h;refine .inl ⟨_,XQ _ _ _,rfl,by simp,λr hr=>?_,_,_,by rw[hme,<-hO],by rw[<-hlen];simp,λi r hi' j v hj=>?_⟩
  ·obtain⟨x,_,rfl⟩:=Yt.1 hr;exact⟨rfl,λv hv=>by simp at hv;subst hv;rfl⟩
  rw[Yj]at hi';obtain⟨x,hx,rfl⟩:=Yo.1 hi'
  match j,hj with
  |0,hj=>
   cases hj;refine⟨.string x,?_,.s _⟩;unfold Fy at hx;rw[Yj]at hx;obtain⟨l,hl',rfl⟩:=Yo.1 hx;simp[hl']
  |j+1,hj=>simp at hj
 rw[QA _ _ e]at h;cases h
section
variable {P:Program}{C:XC}{Y:St}{o:Oper}
def NL (l:L_ Int):ByteArray:=l.foldl (λr n=>r.push (UInt8.ofNat n.toNat)) ByteArray.empty
def Qf.b2s {S T e d:Nat}{x:Operand}{l:L_ Int}{rows:L_ (L_ V)}(ho:o.op=.convert S T x)(hd:o.dst=X d)(hn:B_ d C)(hx:Y.opd x=X (.sl 1 rows))(hr:rows=l.map λx=>[V.i .u8 x])
  (hS:P.underlying S=X (.slice e)) (he:Qi3 P e .u8=t_) (hT:Qg6 P T=t_):Qf P C o Y (Y.put d (.s (NL l))):=by
 subst hr;refine Qf.same hd hn λZ a w hr=>⟨.string (NL l),?_,.dat (.s _)⟩;rcases(hr.opd hx).sl_inv with⟨a',cap,hv,h0⟩|⟨b,off,cap,hv,_,_,_,c,hc,O⟩
 ·have:l=[]:=by simpa using h0
  subst this;simp only[execOp,ho,hv,Xl,run_convert_bytes_string w S T e a' 0 cap hS (Qhq he) (Qc6 hT)];cases a' with
  |none=>simp[Conv.bytesToString,Xx,NL,ByteArray.empty,ByteArray.emptyWithCapacity]|some p=>
   rw[run_bytesToString w p 0 cap [] (by rw[run_loadCells w p 0 (λ_=>undef) (λj hj=>absurd hj (Nat.not_lt_zero _))];rfl)];simp[Xx,NL]
 rw[Dx]at hv hc;simp only[execOp,ho,hv,Xl,run_convert_bytes_string w S T e _ _ cap hS (Qhq he) (Qc6 hT)];rw[run_bytesToString w ⟨b,off,n_⟩ l.length cap l ?_]
 ·simp[Xx,NL]
 rw[run_loadCells w ⟨b,off,n_⟩ l.length c (λj hj=>by rw[Addr.add_lit];exact hc j (by omega))];congr 1;have:(List.range l.length).map c=l.map (Value.int .u8):=by
  apply List.ext_getElem?;intro i;rw[Yj,Yj];by_cases h:i<l.length
  ·rw[List.getElem?_range h,Qv h];have hd:=O i [V.i .u8 l[i]] (by rw[Yj,Qv h];rfl) 0 (.i .u8 l[i]) rfl;rw[show i*1+0=i by omega]at hd;have:=(QW.dat (Z:=Z) hd).i_inv;simp[this]
  rw[SA (by simpa using h),SA (by simpa using h)];rfl
 rw[this]
def Qf.storeNil {T b i off z zz:Nat}{x y:Operand}{rs rs':L_ (L_ V)}{r:L_ V}(ho:o.op=.store T x y)(hd:o.dst=n_)(hx:Y.opd x=X (.loc b i off))
  (O:look Y.hp b=X (.arr z rs)) (hi:rs[i]? = X r) (hy:Y.opd y=X (.lit (.slice n_ 0 0))) (hs:CV P T=X 1) (h:Nat.ble (off+1) z=t_) (he:rs.set i (WW r off [.sl zz []])=rs'):Qf P C o Y (Y.set b (.arr z rs')):=
 Qf.storeAV (v:=.sl zz []) ho hd hx O hi (λZ a w hr=>by rw[(hr.opd hy).lit_inv];exact .dat (.sl0 n_ 0 zz)) (.inl rfl) hs rfl rfl rfl h he
def Qf.max3 {d:Nat}{x y z:Operand}{k:IntKind}{m n q:Int}{ts:Array TypeId}(ho:o.op=.call { callee:=.builtin .max,args:=#[x,y,z],argTypes:=ts })(O:o.dst=X d)(hn:B_ d C)
  (hx:Y.opd x=X (.i k m)) (hy:Y.opd y=X (.i k n)) (hz:Y.opd z=X (.i k q)):Qf P C o Y (Y.put d (.i k (Vm.max2 (Vm.max2 m n) q))):=by
 refine Qf.same O hn λZ a w h=>⟨.int k (Vm.max2 (Vm.max2 m n) q),?_,.dat (.i _ _)⟩;simp[execOp,ho,(h.opd hx).i_inv,(h.opd hy).i_inv,(h.opd hz).i_inv,resolve,invoke,builtin,Builtin.max_,Builtin.max2,Vm.max2]
end
def Cl (w:World)(h:L_ Value)(vs:L_ V):Prop:=h.length=vs.length/\∀(j:Nat) c v,h[j]? = X c->vs[j]? = X v->XG (λk=>k<w.heap.size) w c v
def Cl.nil {w:World}:Cl w [] []:=⟨rfl,λj c v h _=>by simp at h⟩
def Cl.one {w:World}{c:Value}{v:V}(h:XG (λk=>k<w.heap.size) w c v):Cl w [c] [v]:=⟨rfl,λj c' v' O h2=>by
 match j with|0=>simp at O h2;subst O;subst h2;exact h|j+1=>simp at O⟩
def Cl.append {w:World}{a b:L_ Value}{u v:L_ V}(h:Cl w a u)(h2:Cl w b v):Cl w (a++b) (u++v):=by
 refine⟨by simp[h.1,h2.1],λj c x hc O=>?_⟩;by_cases hj:j<a.length
 ·rw[Jh hj]at hc;rw[Jh (by rw[<-h.1];exact hj)]at O;exact h.2 j c x hc O
 rw[Kc (by omega)]at hc;rw[Kc (by rw[<-h.1];omega)]at O;rw[<-h.1]at O;exact h2.2 _ c x hc O
def Rd {H α:Type}(enc:TypeId×Value->H)(P:Program)(w:World)(N:Nat)(t:TypeId)(row:α->L_ V)(wf:α->DataW H->Prop):Prop:=
 ∀(fuel:Nat) (h:L_ Value) (d:DataW H) (O:L_ MemPlace),fuel<=N->DataW.trod enc P w 0 (λ_=>t_) t_ fuel t h=X (d,O)->∃x,wf x d/\Cl w h (row x)
def YE {H α:Type}(enc:TypeId×Value->H)(P:Program)(w:World)(N:Nat)(off tot:Nat)(fs:L_ (Nat×Nat))(row:α->L_ V)(O:α->L_ (DataW H)->Prop):Prop:=
 ∀(fuel:Nat) (h:L_ Value) (xs:L_ (DataW H×L_ MemPlace)),fuel<=N->h.length=off+tot->(fs.mapM λf=>DataW.trod enc P w 0 (λ_=>t_) t_ fuel f.1 ((h.drop f.2).take (P.cellsOf f.1)))=X xs->
  ∃x,O x (xs.map Prod.fst)/\Cl w (h.drop off) (row x)
section
variable {H:Type}{enc:TypeId×Value->H}{P:Program}{w:World}{N:Nat}{t:TypeId}
def Rd.mono {α:Type}{M:Nat}{row:α->L_ V}{O:α->DataW H->Prop}(h:Rd enc P w N t row O)(hM:M<=N):Rd enc P w M t row O:=λfuel cs d ps hf e=>h fuel cs d ps (Yq hf hM) e
def Rd.zero {α:Type}{row:α->L_ V}{h:α->DataW H->Prop}:Rd enc P w 0 t row h:=λfuel O d ps hf e=>by
 have:fuel=0:=by omega
 subst this;simp[DataW.trod]at e
def Rd.map {α β:Type}{row:α->L_ V}{wf:α->DataW H->Prop}{O:β->L_ V}{wf':β->DataW H->Prop}(g:α->β)(h:Rd enc P w N t row wf)(hr:∀x,row x=O (g x))(hw:∀x d,wf x d->wf' (g x) d):Rd enc P w N t O wf':=λfuel cs d ps hf e=>by
 obtain⟨x,h1,h2⟩:=h fuel cs d ps hf e;exact⟨g x,hw x d h1,by rw[<-hr];exact h2⟩
def Rd.int {k:IntKind}(ht:P.underlying t=X (.int k)):Rd enc P w N t (λn:Int=>[V.i k n]) (λn d=>(Lit.int k n).wf=t_/\d=.lit (.int k n)):=by
 intro fuel cs d ps _ e;cases fuel with
 |zero=>simp[DataW.trod]at e|succ fuel=>
  simp only[DataW.trod,ht]at e;split at e
  all_goals first|(cases e;done)|(rename_i h;cases h;done)|skip
  rename_i h;cases h;split at e
  ·rename_i hc;obtain⟨rfl,O⟩:=hc;cases e;exact⟨_,⟨O,rfl⟩,Cl.one (.i _ _)⟩
  cases e
def Rd.string (ht:P.underlying t=X .string):Rd enc P w N t (λn:ByteArray=>[V.s n]) (λn d=>n.size<=maxLen/\d=.lit (.string n.data.toList)):=by
 intro fuel cs d ps _ e;cases fuel with
 |zero=>simp[DataW.trod]at e|succ fuel=>
  simp only[DataW.trod,ht]at e;split at e
  all_goals first|(cases e;done)|(rename_i O;cases O;done)|skip
  split at e
  ·rename_i h;cases e;exact⟨_,⟨h,rfl⟩,Cl.one (.s _)⟩
  cases e
def QzQ {α:Type}{Q:Nat->α->Prop}:∀n:Nat,(∀i,i<n->∃x,Q i x)->∃l:L_ α,l.length=n/\∀i x,l[i]? = X x->Q i x:=by
 intro n
 induction n with
 |zero=>intro _;exact⟨[],rfl,λi x h=>by simp at h⟩|succ n ih=>
  intro h;obtain⟨l,h1,h2⟩:=ih λi hi=>h i (by omega);obtain⟨x,hx⟩:=h n (by omega);refine⟨l++[x],by simp[h1],λi y O=>?_⟩;by_cases hi:i<l.length
  ·rw[Jh hi]at O;exact h2 i y O
  have:=(Xf.1 O).1;simp at this;have:i=l.length:=by omega
  subst this;simp at O;subst O;rw[h1];exact hx
def wfL {α:Type}(h:α->DataW H->Prop)(l:L_ α)(d:DataW H):Prop:=l.length<=maxLen/\((d=.nil/\l=[])\/∃es sp,d=.slice es sp/\es.length=l.length/\∀(i:Nat) x e,l[i]? = X x->es[i]? = X e->h x e)
def Rd.slice {α:Type}{e z:Nat}{row:α->L_ V}{wf:α->DataW H->Prop}(ht:P.underlying t=X (.slice e))(hz:P.cellsOf e=z)(hz0:0<z)(hrow:∀x,Bv z (row x))(he:Rd enc P w N e row wf):
  Rd enc P w N t (λl:L_ α=>[V.sl z (l.map row)]) (wfL wf):=by
 subst hz;intro fuel cs d ps hN h;cases fuel with
 |zero=>simp[DataW.trod]at h|succ fuel=>
  simp only[DataW.trod,ht]at h;split at h
  all_goals first|(cases h;done)|(rename_i hq;cases hq;done)|skip
  ·cases h;exact⟨[],⟨Ii _,.inl ⟨rfl,rfl⟩⟩,Cl.one (.sl0 _ _ _)⟩
  rename_i a len cap hq;cases hq;split at h
  ·rename_i hc;obtain⟨_,hlc,hcm⟩:=hc;obtain⟨O,hel,h⟩:=Vq.1 h;obtain⟨rest,_,h⟩:=Yo.1 h;have hlen:O.length=len:=by simpa using mapM_some_length hel
   have hat:∀i,i<len->∃y rc,O[i]? = X y/\w.cells? 0 (a.add (i*P.cellsOf e)) (P.cellsOf e)=X rc/\DataW.trod enc P w 0 (λ_=>t_) t_ fuel e rc=X y:=λi hi=>by
    have:=mapM_some_get hel i i (by simp[hi]);obtain⟨y,hy⟩:∃y,O[i]? = X y:=⟨_,Qv (by omega)⟩;rw[hy]at this;obtain⟨rc,h1,h2⟩:=Vq.1 this;exact⟨y,rc,hy,h1,h2⟩
   obtain⟨l,hl,hQ⟩:=QzQ (Q:=λi x=>∃y rc,O[i]? = X y/\w.cells? 0 (a.add (i*P.cellsOf e)) (P.cellsOf e)=X rc/\wf x y.1/\Cl w rc (row x)) len λi hi=>by
    obtain⟨y,rc,h1,h2,h3⟩:=hat i hi;obtain⟨x,h4,h5⟩:=he fuel rc y.1 y.2 (by omega) h3;exact⟨x,y,rc,h1,h2,h4,h5⟩
   have hd:d=.slice (O.map (·.1)) (rest.map (·.1)):=by cases h;rfl
   refine⟨l,⟨by omega,.inr ⟨_,_,hd,by simp[hl,hlen],λi x e' hx he'=>?_⟩⟩,Cl.one ?_⟩
   ·obtain⟨y,rc,h1,_,h3,_⟩:=hQ i x hx;rw[Yj,h1]at he';cases he';exact h3
   by_cases h0:len=0
   ·have:l=[]:=HO.1 (by omega);subst this;subst h0;exact .sl0 _ _ _
   obtain⟨b,off,spot⟩:=a;obtain⟨y0,rc0,_,h02,_⟩:=hat 0 (by omega);have hs:spot=n_:=by
    obtain⟨_,h2,h3⟩:=World.cells?_some h02;have h4:=h3 0 hz0;obtain⟨c0,hc0⟩:∃c0,rc0[0]? = X c0:=⟨_,Qv (by omega)⟩;rw[hc0]at h4;simpa[Addr.add] using World.cell?_spot h4
   subst hs;have hb:b<w.heap.size:=by
    have hb:=World.cells?_block h02 hz0;rwa[WideShapes.add_plain]at hb
   have hcell:∀i,i<len->∀rc,w.cells? 0 ((⟨b,off,n_⟩:Addr).add (i*P.cellsOf e)) (P.cellsOf e)=X rc->rc.length=P.cellsOf e/\∀j,j<P.cellsOf e->w.cell? ⟨b,off+(i*P.cellsOf e+j),n_⟩=rc[j]? := λi hi rc h=>by
    obtain⟨_,h2,h3⟩:=World.cells?_some h;refine⟨h2,λj hj=>?_⟩;have:=h3 j hj;rw[WideShapes.add_plain,WideShapes.add_plain]at this;rw[<-OA];exact this
   refine .sl b off len cap (P.cellsOf e) (l.map row) (λj=>(w.cell? ⟨b,off+j,n_⟩).getD undef) hb (by simp[hl]) hlc (λr hr=>by obtain⟨x,_,rfl⟩:=Yt.1 hr;exact hrow x) (λj hj=>?_) (λi r hr j v hv=>?_)
   ·have hij:j / P.cellsOf e<len:=Nat.div_lt_of_lt_mul (by rw[Nat.mul_comm];exact hj);obtain⟨y,rc,_,h2,_⟩:=hat (j / P.cellsOf e) hij;obtain⟨h3,h4⟩:=hcell _ hij rc h2;have h5:=h4 (j % P.cellsOf e) (Nat.mod_lt _ hz0);rw[Nat.mul_comm (j / P.cellsOf e),Nat.div_add_mod]at h5;rw[h5];have:j % P.cellsOf e<rc.length:=by rw[h3];exact Nat.mod_lt _ hz0
    rw[Qv this];rfl
   rw[Yj]at hr;obtain⟨x,hx,rfl⟩:=Yo.1 hr;have hi:i<len:=by rw[<-hl];exact(Xf.1 hx).1
   obtain⟨y,rc,_,h2,_,h3⟩:=hQ i x hx;obtain⟨h4,h5⟩:=hcell i hi rc h2;have hj:j<P.cellsOf e:=by rw[<-(hrow x).1];exact(Xf.1 hv).1
   have h6:=h5 j hj;obtain⟨c,hc⟩:∃c,rc[j]? = X c:=⟨_,Qv (by omega)⟩;rw[hc]at h6;show XG _ w ((w.cell? ⟨b,off+(i*P.cellsOf e+j),n_⟩).getD undef) v;rw[h6];exact h3.2 j c v hc hv
  cases h
def YE.nil {off:Nat}:YE enc P w N off 0 [] (λ_:Unit=>[]) (λ_ xs=>xs=[]):=λfuel O xs _ hl h=>by
 simp at h;subst h;exact⟨(),rfl,by rw[Qj7 (by omega)];exact Cl.nil⟩
def YE.cons {α β:Type}(t off z:Nat){tot:Nat}{fs:L_ (Nat×Nat)}{O:α->L_ V}{row2:β->L_ V}{wf1:α->DataW H->Prop}{wf2:β->L_ (DataW H)->Prop}(hz:P.cellsOf t=z)
  (h1:Rd enc P w N t O wf1) (h2:YE enc P w N (off+z) tot fs row2 wf2):YE enc P w N off (z+tot) ((t,off)::fs) (λx:α×β=>O x.1++row2 x.2) (λx ds=>∃d r,ds=d::r/\wf1 x.1 d/\wf2 x.2 r):=by
 intro fuel cs xs hN hl h;subst hz;rw[List.mapM_cons]at h;obtain⟨y,hy,h⟩:=Vq.1 h;obtain⟨ys,hys,h⟩:=Vq.1 h;cases h;obtain⟨x1,a1,a2⟩:=h1 fuel _ y.1 y.2 hN hy;obtain⟨x2,b1,b2⟩:=h2 fuel cs ys hN (by omega) hys;refine⟨(x1,x2),⟨y.1,ys.map Prod.fst,rfl,a1,b1⟩,?_⟩;have:cs.drop off=(cs.drop off).take (P.cellsOf t)++cs.drop (off+P.cellsOf t):=by
  rw[<-List.drop_drop,QiN]
 rw[this];exact a2.append b2
def Qkg (P:Program)(t:TypeId)(fs:L_ (Nat×Nat))(tot:Nat):Bool:=match P.underlying t with|some (.struct h)=>(h.toList.map λf=>(f.type,f.offset))==fs&&P.cellsOf t==tot|_=>f_
def Qlt {t tot:Nat}{fs:L_ (Nat×Nat)}(h:Qkg P t fs tot=t_):∃O,P.underlying t=X (.struct O)/\(O.toList.map λf=>(f.type,f.offset))=fs/\P.cellsOf t=tot:=by
 unfold Qkg at h;split at h
 ·rename_i O hg;rw[QN,beq_iff_eq,beq_iff_eq]at h;exact⟨O,hg,h.1,h.2⟩
 cases h
def Rd.struct {α:Type}{fs:L_ (Nat×Nat)}{tot:Nat}{row:α->L_ V}{wf:α->L_ (DataW H)->Prop}(hB:Qkg P t fs tot=t_)(hf:YE enc P w N 0 tot fs row wf):
  Rd enc P w (N+1) t row (λx d=>∃ds,d=.agg ds/\wf x ds):=by
 obtain⟨gs,ht,O,hc⟩:=Qlt hB;intro fuel cs d ps hN h;cases fuel with
 |zero=>simp[DataW.trod]at h|succ fuel=>
  simp only[DataW.trod,ht]at h;split at h
  ·rename_i hl;obtain⟨xs,hxs,h⟩:=Yo.1 h;cases h;obtain⟨x,a1,a2⟩:=hf fuel cs xs (by omega) (by rw[hl,hc];omega) (by rw[<-O,List.mapM_map];exact hxs);exact⟨x,⟨_,rfl,a1⟩,a2⟩
  cases h
def QsI (P:Program)(t e n tot:Nat)(fs:L_ (Nat×Nat)):Bool:=match P.underlying t with|some (.array m e')=>m==n&&e'==e&&P.cellsOf t==tot&&((List.range n).map λi=>(e,i*P.cellsOf e))==fs|_=>f_
def QuV {t e n tot:Nat}{fs:L_ (Nat×Nat)}(h:QsI P t e n tot fs=t_):P.underlying t=X (.array n e)/\P.cellsOf t=tot/\((List.range n).map λi=>(e,i*P.cellsOf e))=fs:=by
 unfold QsI at h;split at h
 ·rename_i m e' hg;simp only[QN,beq_iff_eq]at h;obtain⟨⟨⟨rfl,rfl⟩,h⟩,O⟩:=h;exact⟨hg,h,O⟩
 cases h
def Rd.array {α:Type}{e n tot:Nat}{fs:L_ (Nat×Nat)}{row:α->L_ V}{wf:α->L_ (DataW H)->Prop}(hB:QsI P t e n tot fs=t_)(hf:YE enc P w N 0 tot fs row wf):
  Rd enc P w (N+1) t row (λx d=>∃ds,d=.agg ds/\wf x ds):=by
 obtain⟨ht,hc,O⟩:=QuV hB;intro fuel cs d ps hN h;cases fuel with
 |zero=>simp[DataW.trod]at h|succ fuel=>
  simp only[DataW.trod,ht]at h;split at h
  ·rename_i hl;obtain⟨xs,hxs,h⟩:=Yo.1 h;cases h;obtain⟨x,a1,a2⟩:=hf fuel cs xs (by omega) (by rw[hl,hc];omega) (by rw[<-O,List.mapM_map];exact hxs);exact⟨x,⟨_,rfl,a1⟩,a2⟩
  cases h
def Bk (k:IntKind)(n:Int):Prop:=k.min<=n/\n<=k.max
def okS (s:ByteArray):Prop:=s.size<=maxLen
def Cm {α:Type}(ok:α->Prop)(l:L_ α):Prop:=l.length<=maxLen/\∀x∈l,ok x
def QzR {k:IntKind}{n:Int}{d:DataW H}(h:(Lit.int k n).wf=t_/\d=.lit (.int k n)):Bk k n:=by
 have:=h.1;simp only[Lit.wf,QN,Qw]at this;exact this
def OL {α:Type}{ok:α->Prop}{l:L_ α}{d:DataW H}(h:wfL (λx _=>ok x) l d):Cm ok l:=by
 refine⟨h.1,λx hx=>?_⟩;rcases h.2 with⟨_,rfl⟩|⟨es,sp,_,h3,h4⟩
 ·simp at hx
 obtain⟨i,hi⟩:=NH.1 hx;have O:i<es.length:=by rw[h3];exact(Xf.1 hi).1
 exact h4 i x _ hi (Qv O)
def QxH {w:World}{r:Reach}{base t tot:Nat}{v:Value}{fs:L_ (Nat×Nat)}(h:Qkg P t fs tot=t_)(hv:Value.okWide P w r base t v):∃O,v=.agg O:=by
 obtain⟨gs,h1,_⟩:=Qlt h;obtain⟨O,h2,_⟩:=WideShapes.okWide_struct h1 hv;exact⟨O,h2⟩
def FV {z:Nat}{r:L_ V}(h:(Nat.beq r.length z&&r.all V.one)=t_):Bv z r:=by
 rw[QN,XS]at h;exact⟨Yp h.1,h.2⟩
end
section
variable {H:Type}{enc:TypeId×Value->H}{P:Program}
def QX.law {f:FuncId}{us:L_ V}{args:Array Value}{W:World}(h:QX P f us [] (Gives (.b t_) []))(hG:QbH P (λk=>k<W.heap.size) W)(hs:args.size=us.length)
  (ha:∀(j:Nat) x v,args[j]? = X x->us[j]? = X v->XG (λk=>k<W.heap.size) W x v):Calls P f args W λe w'=>e=.returned (.bool t_)/\Below W.heap.size W w':=by
 refine(h (λk=>k<W.heap.size) (λ_=>n_) W args ⟨λk O=>O,λ_ _ _ _ _ h=>(by cases h),λ_ _ h=>(by cases h),hs,λj x v h1 h2=>.dat (ha j x v h1 h2),λ_ _ h=>(by cases h)⟩ hG).mono ?_;rintro e w' ⟨x,v,hs',φ',rfl,⟨rfl,_⟩,out⟩;exact⟨by rw[out.rep.b_inv],out.os,out.tape,out.output,out.size,λk O=>out.kept k O λ_ _ h=>by cases h⟩
def Qh7 (hl:laidOutB P=t_){W W':World}(hb:Below W.heap.size W W'):∀{ts:L_ TypeId} {vs:L_ Value} {ds:L_ (DataW H)} {ps:L_ MemPlace},(∀t∈ts,P.readableRec t=t_/\t<P.types.size)->
  DataW.TrodAll enc P W 0 (λ_=>t_) t_ ts vs ds ps->(∀x∈ps,x.block<W.heap.size)->DataW.TrodAll enc P W' 0 (λb=>decide (b<W.heap.size)) t_ ts vs ds ps
 |[],[],[],_,_,h,_=>h|t::ts,v::vs,d::ds,_,hr,⟨p,q,h1,h2,e⟩,O=>⟨p,q,Below.trod hl (hr t (Yc)).1 (hr t (Yc)).2 h1 hb (λx hx=>O x (by rw[e];exact SB _ hx)),
   Qh7 hl hb (λt ht=>hr t (Ys _ ht)) h2 (λx hx=>O x (by rw[e];exact Qg0 _ hx)),e⟩
def QxI {f:Func}{s:ChangeSpec}{O fresh:Bool}{W W':World}{args:Array Value}{ds:L_ (DataW H)}{before:L_ MemPlace}{tb:TypeId}(hl:laidOutB P=t_)(hr:∀t∈f.params.toList,P.readableRec t=t_/\t<P.types.size)
  (hW:DataW.Whole enc P f.params.toList s.vars O W args.toList ds [] before) (hv:s.vars=[]) (hb:Below W.heap.size W W') (hrt:f.resultTypes=#[tb]) (htb:P.underlying tb=X .bool)
  (hres:(s.fn H (ds++[])).results=[.lit (.bool t_)]) (hargs:(s.fn H (ds++[])).args=ds) (hvars:(s.fn H (ds++[])).vars=[]):s.post enc P f O fresh f_ f_ W args (.bool t_) W':=by
 have hW0:=hW;obtain⟨p,q,hA,hV,rfl,_,_⟩:=hW;have hlt:=hW0.lt;rw[hv]at hV;have hq:q=[]:=hV;subst hq;refine⟨ds,[],_,[],p,[],hW0,?_,?_,?_,?_,λh=>by cases h⟩
 ·rw[hres,hrt];exact⟨[],[],shut_bool htb t_,rfl,rfl⟩
 ·rw[hargs];exact Qh7 hl hb hr hA λx hx=>hlt x (SB _ hx)
 ·rw[hvars,hv];rfl
 exact World.keptBut_mono (λp hp=>hp.elim) (hb.frame (λ_=>False))
def Cl.arg1 {w:World}{v:Value}{x:V}(O:v.cells.toList=[v])(h:Cl w v.cells.toList [x]):XG (λk=>k<w.heap.size) w v x:=h.2 0 v x (by rw[O];rfl) rfl
def Cl.argS {w:World}{O:Array Value}{vs:L_ V}(h:Cl w (Value.agg O).cells.toList vs):XG (λk=>k<w.heap.size) w (.agg O) (.agg vs):=by
 refine .agg O vs (by simpa[Value.cells] using h.1) λj x v hx hv=>h.2 j x v (by simpa[Value.cells] using hx) hv
def Rd.open {α:Type}{w:World}{t:TypeId}{row:α->L_ V}{O:α->DataW H->Prop}{v:Value}{d:DataW H}{p:L_ MemPlace}(h:∀N,Rd enc P w N t row O)(hd:DataW.Trod enc P w 0 (λ_=>t_) t_ t v d p):∃x,O x d/\Cl w v.cells.toList (row x):=by
 obtain⟨n,hn⟩:=hd;exact h n n _ _ _ (Yk _) hn
end
section
variable {P:Program}{C:XC}{Q:Exit->St->Prop}{Y:St}{ks:L_ Fr}{o:Oper}
def Qq0 {σ':St}{Z φ':Prop}{d f:Nat}{vs us:L_ V}{M N:L_ (Nat×Nat)}{dead:L_ Nat}{ms:L_ Mode}{outs hsC:H_}{r:V}
  (hus:Vs (UO M) ms vs=X us) (hC:Nm (UO M) (look Y.hp) M=X hsC)
  (e:cmV P Y Z d f vs M N dead ms outs r=X (σ',φ')):∃O r',Ug Y M N dead outs=t_/\(M.map Prod.fst).Nodup/\Vws Y.hp f_ f_ (Bx M) (λa b=>look M b=X a) vs us/\Rx Y.hp f_ f_ (Bx M) (λa b=>look M b=X a) Y.hp M hsC/\
   Rx [] f_ f_ [] (λc b=>look N b=X c) outs N O/\Vw [] f_ f_ [] (λc b=>look N b=X c) r r'/\σ'=(Y.after dead O).put d r':=by
 unfold cmV at e;replace e:=Yn e;obtain⟨e1,e⟩:=e;simp only[QN]at e1;obtain⟨⟨h1,h2⟩,h3⟩:=e1;have h2:=ED.1 h2;have h3:=ED.1 h3;have inj:OG M=t_/\OG N=t_:=by
  simp only[Ug,QN]at h1;exact⟨h1.1.1.1,h1.1.1.2⟩
 have mM:∀a b,UO M a=X b->look M b=X a:=λa b h=>Dc inj.1 (MZ h) h2;have mN:∀a b,UO N a=X b->look N b=X a:=λa b h=>Dc inj.2 (MZ h) h3;simp only[hus,hC]at e;split at e
 ·rename_i O hN;split at e
  ·rename_i r' hr;cases e;exact⟨O,r',h1,h2,Se mM hus,UR mM hC,UR mN hN,TW mN hr,rfl⟩
  cases e
 cases e
def AK.callE {ι:Type}[Inhabited ι]{Φ:ι->Prop}{d f n:Nat}{ops:Array Oper}{rest:L_ Oper}{vs us:L_ V}{hsC:H_}(M N:L_ (Nat×Nat))(dead:L_ Nat)(ms:L_ Mode)(outs:ι->H_)(r:ι->V)(σ':ι->St)
  (hg:o.guard=n_) (hCn:Ki P C n) (hE:JP P C o Y f vs) (hd:o.dst=X d) (hn:B_ d C)
  (hus:Vs (UO M) ms vs=X us) (hC:Nm (UO M) (look Y.hp) M=X hsC)
  (hc:QX P f us hsC λv hs=>∃x,Φ x/\Gives (r x) (outs x) v hs)
  (e:∀x,∃φ',cmV P Y True d f vs M N dead ms (outs x) (r x)=X (σ' x,φ'))
  (k:∀x,Φ x->AK P C Q (.o ops rest) ks (σ' x)):AK P C Q (.o ops (o::rest)) ks Y:=by
 intro a w ⟨Z,hr⟩;simp only[wpListIn,Region.wanted,hg,if_true];refine⟨λ_ _=>trivial,?_⟩;obtain⟨vals,hex,h1,h2⟩:=hE Z a w hr;rw[Qgi hex,Oper.uponIn_enter];obtain⟨_,e0⟩:=e default;obtain⟨_,_,n1,n2,hv,O,_,_,_⟩:=Qq0 hus hC e0;have hN0:=Names.of n1 n2;refine⟨(λh=>by cases h),Qgj ((hc _ _ w _ (Ins.of_vals hr h1 h2 hN0.injM hN0.param hv O) ((hr.glob hCn.g).mono λ_ h=>.inl h)).mono ?_)⟩;rintro e' w' ⟨x,v,hs',φ',rfl,⟨i,hΦ,rfl,hso⟩,hout⟩;obtain⟨_,ei⟩:=e i;obtain⟨hsN,r',n1,n2,_,_,hback,hr',hσ⟩:=Qq0 hus hC ei;have hN:=Names.of n1 n2;obtain⟨h3,h4⟩:=hr.after hN hout hso (λc s h=>by
  obtain⟨ob',e1⟩:=O.get.2 c s h;obtain⟨s',ob,e2,e3,_⟩:=O.get.1 c ob' e1;rw[h]at e2;cases e2;exact⟨ob,e3⟩) hback
 refine k i hΦ _ _ ⟨Ry Z M N dead φ',?_⟩;rw[hd,hσ];exact h3.put (XT hn) (h4 hr')
def Qq1 {σ':St}{φ':Prop}{f:Nat}{vs us:L_ V}{M N:L_ (Nat×Nat)}{dead:L_ Nat}{ms:L_ Mode}{outs hsC:H_}{r:V}
  (hus:Vs (UO M) ms vs=X us) (hC:Nm (UO M) (look Y.hp) M=X hsC)
  (e:rgV P Y f vs M N dead ms outs r=X (σ',φ')):∃O,Ug Y M N dead outs=t_/\(M.map Prod.fst).Nodup/\Vws Y.hp f_ f_ (Bx M) (λa b=>look M b=X a) vs us/\Rx Y.hp f_ f_ (Bx M) (λa b=>look M b=X a) Y.hp M hsC/\
   Rx [] f_ f_ [] (λc b=>look N b=X c) outs N O/\σ'=Y.after dead O:=by
 unfold rgV at e;replace e:=Yn e;obtain⟨e1,e⟩:=e;simp only[QN]at e1;obtain⟨⟨h1,h2⟩,h3⟩:=e1;have h2:=ED.1 h2;have h3:=ED.1 h3;have inj:OG M=t_/\OG N=t_:=by
  simp only[Ug,QN]at h1;exact⟨h1.1.1.1,h1.1.1.2⟩
 have mM:∀a b,UO M a=X b->look M b=X a:=λa b h=>Dc inj.1 (MZ h) h2;have mN:∀a b,UO N a=X b->look N b=X a:=λa b h=>Dc inj.2 (MZ h) h3;simp only[hus,hC]at e;split at e
 ·rename_i O hN;cases e;exact⟨O,h1,h2,Se mM hus,UR mM hC,UR mN hN,rfl⟩
 cases e
def AK.rangeFE {ι:Type}[Inhabited ι]{Φ:ι->Prop}{g:Operand}{ps:Array Tmp}{assign body:Code}{f n:Nat}{fs cps:L_ V}(b:Nat)(ts:L_ Nat)(M N:L_ (Nat×Nat))(dead:L_ Nat)(ms:L_ Mode)(K:Nat->HP)(hCn:Ki P C n)(hrnd:C.rnd=n_)(hK:∀fn,K fn=⟨fn,ps,assign,body⟩)
  (hg:Y.opd g=X (.clo (.func f) fs cps)) (he:QfG P f=t_) (hb:look Y.hp b=n_) (hb2:Nat.ble 621 b=f_)
  (H:∀l fn,∃(outs:ι->H_) (r:ι->V) (σ2:ι->St) (us:L_ V) (hsC:H_),Vs (UO M) ms (fs++(.clo (.yield l) [] []::cps))=X us/\Nm (UO M) (look (Y.set b (.lp l (K fn) (snap ts Y.fr n) 0)).hp) M=X hsC/\
   QX P f us hsC (λv hs=>∃x,Φ x/\Gives (r x) (outs x) v hs)/\∀x,∃φ2 cs2 q,rgV P (Y.set b (.lp l (K fn) (snap ts Y.fr n) 0)) f (fs++(.clo (.yield l) [] []::cps)) M N dead ms (outs x) (r x)=X (σ2 x,φ2)/\look (σ2 x).hp b=X (.lp l (K fn) cs2 q)/\q≠1/\
   (Φ x->atJ (AK P C Q (.x .normal) ks ((σ2 x).kill b)) (λc=>AK P C Q (.c c) ks ((σ2 x).kill b)) (jmp q))):AK P C Q (.c (.rangeFunc g ps assign body)) ks Y:=by
 obtain rfl:K=λfn=>⟨fn,ps,assign,body⟩:=funext hK;have hpg:=hCn.g;replace hCn:=hCn.n;subst hCn;intro a w ⟨Z,hr⟩;refine wpIn_rangeFunc λfn _=>?_;obtain⟨outs,r,σ2,us,hsC,hus,hC,hcall,hx⟩:=H (w.heap.size+1) fn;obtain⟨xs,ys,hev,e1,e2,e3,e4⟩:=(hr.opd hg).clo_inv;have hb3:b<621:=Fw (by rw[hb2];rfl);refine⟨w.heap.size+1,[{ target:=.collected w.heap.size,args:=#[] }],(w.alloc (.deferred (X []))).alloc (.loop { state:=.ready,pending:=n_,fn,tmps:=a.tmps,params:=ps,assign,body,defers:=w.heap.size }),{ target:=.fn (.func f) ys,args:=xs++#[.func (.yield (w.heap.size+1)) #[] #[]] },(w.alloc (.deferred (X []))).alloc (.loop { state:=.ready,pending:=n_,fn,tmps:=a.tmps,params:=ps,assign,body,defers:=w.heap.size }),f,(xs++#[.func (.yield (w.heap.size+1)) #[] #[]])++ys,(w.alloc (.deferred (X []))).alloc (.loop { state:=.ready,pending:=n_,fn,tmps:=a.tmps,params:=ps,assign,body,defers:=w.heap.size }),?_,?_,λ_ _=>trivial,?_,(λh=>by cases h),?_⟩
 ·rw[show C.F.round=n_ from hrnd];exact run_enterLoop_outer _ _ _ _ _
 ·have hy:a.eval (.const (.func (.yield (w.heap.size+1)) #[] #[]))=.func (.yield (w.heap.size+1)) #[] #[]:=rfl;simp only[resolve,hev,Deferred.ofValue,Xx,List.map_toArray,GC,List.map_nil,hy]
 ·exact OE he
 have hm:=hr.mark;have hN0:=hm.none_of_look hb;have hsz:(w.alloc (.deferred (X []))).heap.size=w.heap.size+1:=by simp
 have hR1:=hm.alloc (cap:=0) (z:=0) hb hb3 (ob:=.lp (w.heap.size+1) ⟨fn,ps,assign,body⟩ (snap ts Y.fr C.n) 0)
  (obj:=.loop { state:=.ready,pending:=n_,fn,tmps:=a.tmps,params:=ps,assign,body,defers:=w.heap.size })
  ⟨a.tmps,w.heap.size,hsz,rfl,by rw[<-hsz];exact World.alloc_heap_new _ _,by rw[hr.tmps];simp[Vm.snap],λj x v hx hv=>(hm.snap j x v hx hv).mono (hm.mono_ext _ hN0) (hm.imm_alloc b 0 0 _ hN0)⟩
 rw[hsz]at hR1;generalize hσ1:Y.set b (.lp (w.heap.size+1) ⟨fn,ps,assign,body⟩ (snap ts Y.fr C.n) 0)=σ1 at hR1 hx hC;generalize hw1:(w.alloc (.deferred (X []))).alloc (.loop { state:=.ready,pending:=n_,fn,tmps:=a.tmps,params:=ps,assign,body,defers:=w.heap.size })=w1 at hR1 ⊢;have hval:(xs++#[.func (.yield (w.heap.size+1)) #[] #[]])++ys=(xs.toList++(.func (.yield (w.heap.size+1)) #[] #[]::ys.toList)).toArray:=by apply Array.ext';simp
 rw[hval];obtain⟨_,_,_,ed,_⟩:=hx default;obtain⟨_,n1,n2,hv,hobs,_,_⟩:=Qq1 hus hC ed;have hNm:=Names.of n1 n2;have hfr1:σ1.fr=Y.fr:=by rw[<-hσ1];rfl
 refine Qgj ((hcall _ _ w1 _ (Ins.of_vals (g:=f_) (vs:=fs++(.clo (.yield (w.heap.size+1)) [] []::cps)) hR1 (by simp[e1,e2]) (λj x v hx hv=>?_) hNm.injM hNm.param hv hobs) ((hR1.glob hpg).mono λ_ h=>.inl h)).mono ?_)
 ·have up:=λ{x:Value} {v:V} (h:QW Z (Xp C Z w) w x v)=>(h.mono (φ':=Z) (I':=Xp C Z (w.alloc (.deferred (X [])))) (w':=w.alloc (.deferred (X []))) (λ_ _ h=>h) λk hk=>⟨⟨by have:=hk.1;simp;omega,hk.2⟩,Below.heap_alloc w _ k hk.1⟩).mono (hm.mono_ext ⟨w.heap.size+1,0,0,[],0⟩ hN0) (by
   have:=hm.imm_alloc b 0 0 (.loop { state:=.ready,pending:=n_,fn,tmps:=a.tmps,params:=ps,assign,body,defers:=w.heap.size }) hN0;rw[hsz,hw1]at this;exact this)
  by_cases c1:j<fs.length
  ·rw[Jh (by simpa using (by omega:j<xs.size))]at hx;rw[Jh c1]at hv;exact up (e3 j x v (by simpa using hx) hv)
  rw[Kc (by simp;omega)]at hx;rw[Kc (by omega)]at hv;simp only[Array.length_toList]at hx;rw[e1]at hx;generalize j-fs.length=i at hx hv;cases i with
  |zero=>
   simp at hx hv;subst hx;subst hv;exact .clo (.yield _) #[] #[] [] [] rfl rfl (λj x v h=>by simp at h) (λj x v h=>by simp at h)
  |succ i=>simp only[Qj9]at hx hv;exact up (e4 i x v (by simpa using hx) hv)
 rintro e w' ⟨x,v,hs',φ',rfl,⟨i,hΦ,rfl,hso⟩,hout⟩;obtain⟨_,cs2,q,ei,hq,hq1,hk⟩:=hx i;replace hk:=hk hΦ;obtain⟨hsN,n1,n2,_,_,hback,hσ2⟩:=Qq1 hus hC ei;have hNm:=Names.of n1 n2;obtain⟨k3,_⟩:=hR1.after hNm hout hso (λc s h=>by
  obtain⟨ob',e1⟩:=hobs.get.2 c s h;obtain⟨s',ob,e2,e3,_⟩:=hobs.get.1 c ob' e1;rw[h]at e2;cases e2;exact⟨ob,e3⟩) hback
 rw[<-hσ2]at k3;obtain⟨B,hB,tmps,D,f1,f2,f3,f4,f5⟩:=k3.lp hq;have hst:lst q≠.busy:=by
  match q,hq1 with
  |0,_=>exact(by intro h;cases h)
  |1,h=>exact absurd rfl h|k+2,_=>exact(by intro h;cases h)
 refine⟨_,_,run_endLoop f3 hst,?_⟩;have O:=k3.killTo hB (w':=w'.putObj (w.heap.size+1) (.loop { state:=.exhausted,pending:=jmp q,fn,tmps,params:=ps,assign,body,defers:=D })) rfl rfl rfl World.putObj_size (λk hk=>World.putObj_heap_other (by rw[<-f1];exact hk));simp only;cases hj:jmp q with|none=>rw[hj]at hk O;exact hk _ _ ⟨_,O⟩|some c=>rw[hj]at hk O;exact hk _ _ ⟨_,O⟩
def AK.rangeF {Q:Exit->St->Prop}{ks:L_ Fr}{g:Operand}{ps:Array Tmp}{assign body:Code}{f n:Nat}{fs cps:L_ V}(b:Nat)(ts:L_ Nat)(M N:L_ (Nat×Nat))(dead:L_ Nat)(ms:L_ Mode)(K:Nat->HP)(hCn:Ki P C n)(hrnd:C.rnd=n_)(hK:∀fn,K fn=⟨fn,ps,assign,body⟩)
  (hg:Y.opd g=X (.clo (.func f) fs cps)) (he:QfG P f=t_) (hb:look Y.hp b=n_) (hb2:Nat.ble 621 b=f_)
  (H:∀l fn,∃outs r σ2 φ2 O q,rgV P (Y.set b (.lp l (K fn) (snap ts Y.fr n) 0)) f (fs++(.clo (.yield l) [] []::cps)) M N dead ms outs r=X (σ2,φ2)/\φ2/\look σ2.hp b=X (.lp l (K fn) O q)/\q≠1/\
   atJ (AK P C Q (.x .normal) ks (σ2.kill b)) (λc=>AK P C Q (.c c) ks (σ2.kill b)) (jmp q)):AK P C Q (.c (.rangeFunc g ps assign body)) ks Y:=by
 refine AK.rangeFE (ι:=Unit) (Φ:=λ_=>True) b ts M N dead ms K hCn hrnd hK hg he hb hb2 λl fn=>?_;obtain⟨outs,r,σ2,φ2,O,q,e,hφ2,hq,hq1,hk⟩:=H l fn;have e':=e;unfold rgV at e;replace e:=Yn e;obtain⟨_,e⟩:=e;split at e
 ·rename_i us hus;split at e
  ·rename_i hsC hC;split at e
   ·cases e;exact⟨λ_=>outs,λ_=>r,λ_=>_,us,hsC,hus,hC,hφ2.mono (λv hs h=>⟨(),trivial,h⟩),λ_=>⟨_,O,q,e',hq,hq1,λ_=>hk⟩⟩
   cases e
  cases e
 cases e
end
def QuW (n:Nat)(p:Int×Int):O_ (Nat⊕Empty):=X (.inl (n+1))
def QlJ : ∀(l:L_ (Int×Int)) (n:Nat),GM QuW n l=X (.inl (n+l.length)):=by
 intro l
 induction l with|nil=>intro n;rfl|cons p l h=>intro n;simp only[GM,QuW,Qa,Sum.elim_inl];rw[h];simp[Nat.add_comm,Nat.add_left_comm]
def Qwa (l:L_ (Int×Int))(n:Nat):MF QuW n l=X (.inl (n+l.length)):=Pv.2 ⟨λO h=>by rw[QlJ,QlJ,h.length_eq],QlJ l n⟩
def QuX {l m:L_ Int}(h:l.Perm m):El l=El m:=by
 rw[Qhs,Qhs];refine List.Perm.eq_of_pairwise (le:=λx y:Int=>x<=y) ?_ ?_ ?_ ?_
 ·intro a b _ _ O h2;omega
 ·exact(List.pairwise_mergeSort (le:=λx y:Int=>decide (x<=y)) (λa b c O h2=>by simp at *;omega) (λa b=>by simp;omega) l).imp λh=>by simpa using h
 ·exact(List.pairwise_mergeSort (le:=λx y:Int=>decide (x<=y)) (λa b c O h2=>by simp at *;omega) (λa b=>by simp;omega) m).imp λh=>by simpa using h
 exact((List.mergeSort_perm l _).trans h).trans (List.mergeSort_perm m _).symm
def spZ : L_ Int:=(List.range 256).map λc=>if Lib.isSp (UInt8.ofNat c)then 1 else 0
def QtO {P:Program}{W:World}(h:Lib.TabIs P W "strings.asciiSpace" .u8 spZ):QbH P (fun k=>k<W.heap.size) W:=fun g hg=>by
 have hc:∀c:Nat,c<256->W.cell? ⟨g,c,n_⟩=X (.int .u8 (if Lib.isSp (UInt8.ofNat c)then 1 else 0)):=λc hc=>by
  rw[h.cell hg c (by simp only[spZ,Dx,QeC];exact hc)];simp[spZ,List.getD,hc]
 have h0:g<W.heap.size:=by
  have:=hc 0 (by decide);apply Nat.lt_of_not_le;intro hle;have e:W.heap[g]? = n_:=Array.getElem?_eq_none hle;simp[World.cell?,e]at this
 exact⟨h0,h0,hc⟩
def QsJ {P:Program}{W:World}{l r:L_ (String×DataW Unit)}{g:Nat}{t e:TypeId}(n:Nat)(hl:l.drop n=("strings.asciiSpace",Lib.tabData .u8 spZ)::r)(hp:(l.all fun x=>x.2.handleName?.isNone)=true)
  (hg:P.globalNamed "strings.asciiSpace" = some g) (hty:(P.globals[g]?).map (·.type)=some t) (ht:P.underlying t=some (.array 256 e)) (he:P.underlying e=some (.int .u8)) (hce:P.cellsOf e=1) (hct:P.cellsOf t=256)
  (h:laidMetH P l W):QbH P (λk=>k<W.heap.size) W:=by
 rw[MakeChecks.laidMetH_plain _ _ _ hp]at h;have key:∀(n:Nat) (l:L_ (String×DataW Unit)),laidMet P l W->laidMet P (l.drop n) W:=by
  intro n
  induction n with
  |zero=>intro l h;exact h|succ n ih=>
   intro l h;cases l with|nil=>exact h|cons x l=>exact ih l h.tail
 have h2:=key n l h;rw[hl]at h2;exact QtO (Lib.tabIs_of_head hg hty ht he hce hct h2)
variable {H:Type}{P:Program}
def Sz (P:Program)(t:Nat)(d:DataW H):Prop:=∀n∈d.weights P t,n<=reachBytes
def Sz.all {O:L_ TypeId}{ds:L_ (DataW H)}(h:(DataW.weightsEach P O ds).all (·<=reachBytes)=t_){j:Nat}{t:Nat}{d:DataW H}(ht:O[j]? = X t)(hd:ds[j]? = X d):Sz P t d:=λn hn=>by
 have:=XS.1 h n (DataW.weights_mem_each ht hd n hn);simpa using this
def Sz.field {t:Nat}{fs:Array Field}(hu:P.underlying t=X (.struct fs)){ds:L_ (DataW H)}(h:Sz P t (.agg ds)){j:Nat}{u:Nat}{d:DataW H}(ht:(fs.toList.map (·.type))[j]? = X u)(O:ds[j]? = X d):Sz P u d:=λn hn=>h n (by
 simp only[DataW.weights,hu];exact DataW.weights_mem_each ht O n hn)
def Qt7 {e:Nat}{d:DataW H}{n:Nat}(O:n∈d.weights P e):∀{ds:L_ (DataW H)},d∈ds->n∈DataW.weightsAll P e ds
 |[],h=>by cases h
 |x::ds,h=>by
  simp only[DataW.weightsAll,YT];rcases XP.1 h with rfl|h
  ·exact .inl O
  exact .inr (Qt7 O h)
def szL {α:Type}{t e:Nat}{ok sz:α->Prop}{l:L_ α}{d:DataW H}(hu:P.underlying t=X (.slice e))(h:wfL (λx d=>ok x/\(Sz P e d->sz x)) l d):Cm ok l/\(Sz P t d->l.length*P.bytesOf e<=reachBytes/\∀x∈l,sz x):=by
 obtain⟨h1,⟨rfl,rfl⟩|⟨es,sp,rfl,hl,hw⟩⟩:=h
 ·exact⟨⟨h1,λx h=>by cases h⟩,λ_=>⟨by simp,λx h=>by cases h⟩⟩
 have key:∀x∈l,∃d∈es,ok x/\(Sz P e d->sz x):=λx hx=>by
  obtain⟨i,hi,rfl⟩:=Ej.1 hx;have O:i<es.length:=by omega
  exact⟨es[i],Xc O,hw i _ _ (Qv hi) (Qv O)⟩
 refine⟨⟨h1,λx hx=>by obtain⟨_,_,h,_⟩:=key x hx;exact h⟩,λhs=>⟨?_,λx hx=>?_⟩⟩
 ·have:=hs ((es.length+sp.length)*P.bytesOf e) (by simp only[DataW.weights,hu];exact Yc);rw[<-hl];exact Yq (Jr _ (Nat.le_add_right _ _)) this
 obtain⟨d,hd,_,h⟩:=key x hx;refine h λn hn=>hs n ?_;simp only[DataW.weights,hu];exact Ys _ (SB _ (Qt7 hn hd))
def QzS {α:Type}{t e b:Nat}{ok:α->Prop}{l:L_ α}{d:DataW H}(hu:P.underlying t=X (.slice e))(hb:P.bytesOf e=b)(h:wfL (λx _=>ok x) l d):Cm ok l/\(Sz P t d->l.length*b<=reachBytes):=by
 subst hb;have:=szL (P:=P) (t:=t) (e:=e) (sz:=λ_=>True) hu (show wfL (λx d=>ok x/\(Sz P e d->True)) l d from⟨h.1,h.2.imp id λ⟨es,sp,O,h2,h3⟩=>⟨es,sp,O,h2,λi x e a b=>⟨h3 i x e a b,λ_=>trivial⟩⟩⟩);exact⟨this.1,λhs=>(this.2 hs).1⟩
section
variable {κ α:Type}[DecidableEq κ]
def QnU {π:Type}{L:L_ (Nat×π)}{h:Array Nat}{y:Nat}:Js L (h.push y)=(Js L h).filter λq=>!(q.1==y):=by
 unfold Js;rw[List.filter_filter];apply List.filter_congr;intro q _;rw[HN];simp[Array.mem_push];constructor
 ·rintro ⟨O,h2⟩;exact⟨h2,O⟩
 rintro ⟨O,h2⟩;exact⟨h2,O⟩
structure Qcx (L L':List (Nat×(κ×α))) (seen:Array Nat):Prop where
 keys:L'.map (·.2.1)=L.map (·.2.1)
 left:Js L' seen=Js L seen
def Qcx.nil {L L':L_ (Nat×(κ×α))}{O:Array Nat}(h:Qcx L L' O)(hq:Js L' O=[]):Js L O=[]:=by rw[<-h.left];exact hq
end
section
variable {P:Program}{C:XC}{Y:St}{o:Oper}{κ α:Type}[DecidableEq κ]
end
def AK.know {P:Program}{C:XC}{Q:Exit->St->Prop}{Y:St}{ks:L_ Fr}{pt:Pt}{p:Prop}(h:∀a w,R C Y a w->p)(k:p->AK P C Q pt ks Y):AK P C Q pt ks Y:=
 AK.weakenE (ι:=PLift p) (f:=λ_=>Y) (λa w O=>⟨⟨h a w O⟩,O⟩) λi=>k i.down
def AK.openMapK {P:Program}{C:XC}{Q:Exit->St->Prop}{Y:St}{ks:L_ Fr}{κ α:Type}[DecidableEq κ]{K:TypeId}{e:κ->V}{val:κ->Value}{f:α->V}{lt:L_ (κ×α)}{b:Nat}{pt:Pt}(hk:Bz P K e val)(hb:look Y.hp b=X (.map (QO e f lt)))
  (h:∀bm O (L:L_ (Nat×(κ×α))),(L.map (·.1)).Nodup->(L.map (·.2.1)).Nodup->(L.map Prod.snd).Perm lt->AK P C Q pt ks (Y.set b (.mapX bm O (Nn e f L) (QO e f lt)))):AK P C Q pt ks Y:=by
 refine AK.openMap hk hb λbm O L h1 h2=>AK.know (p:=(lt.map Prod.fst).Nodup) (λa w ⟨Z,hr⟩=>?_) λhn=>h bm O L h1 ?_ h2
 ·rcases hr.heap b _ (St.look_set_same _ _ _)with⟨B,hB,_,M,_,_,_,g3,_⟩|⟨_,e'⟩
  ·exact(Vr hk.einj).1 g3
  exact e'.elim
 have:=(h2.map Prod.fst).nodup_iff.2 hn;rw[QaW]at this;exact this
def V.lo1 : V->V
 |.sln _ z rs=>.sl z rs|v=>v
def V.lo2 : V->V
 |.sln _ z rs=>.sl z (rs.map (List.map V.lo1))|v=>v
def V.lo3 : V->V
 |.tup h=>.tup (h.map V.lo2)|v=>v.lo2
def V.lo1_one (v:V):v.lo1.one=v.one:=by cases v<;>rfl
def XG.lo {I:Nat->Prop}{w:World}{x:Value}{v:V}(d:XG I w x v):XG I w x v.lo1:=by cases v<;>first|exact d|exact d.lo1
def Bv.lo {z:Nat}{r:L_ V}(h:Bv z r):Bv z (r.map V.lo1):=⟨by simpa using h.1,λv hv=>by obtain⟨u,O,rfl⟩:=Yt.1 hv;rw[V.lo1_one];exact h.2 u O⟩
def XG.loR {I:Nat->Prop}{w:World}{x:Value}{z:Nat}{rs:L_ (L_ V)}(d:XG I w x (.sl z rs)):XG I w x (.sl z (rs.map (List.map V.lo1))):=by
 cases d with
 |sl0=>exact .sl0 _ _ _|sl b off len cap _ _ c hI hl hc hr h hd=>
  refine .sl b off len cap z _ c hI (by simpa using hl) hc (λr O=>?_) h (λi r hi j v hj=>?_)
  ·obtain⟨s,hs,rfl⟩:=Yt.1 O;exact(hr s hs).lo
  rw[Yj]at hi;obtain⟨s,hs,rfl⟩:=Yo.1 hi;rw[Yj]at hj;obtain⟨u,hu,rfl⟩:=Yo.1 hj;exact(hd i s hs j u hu).lo
def QW.lo2 {Z:Nat->O_ Xh}{I:Nat->Prop}{w:World}{x:Value}{v:V}(d:QW Z I w x v):QW Z I w x v.lo2:=by
 cases v with
 |sln β z rs=>cases d with|dat d=>exact .dat d.lo1.loR
 |_=>exact d
def QW.lo3 {Z:Nat->O_ Xh}{I:Nat->Prop}{w:World}{x:Value}{v:V}(d:QW Z I w x v):QW Z I w x v.lo3:=by
 cases v with
 |tup cs=>
  obtain⟨xs,rfl,hs,hr⟩:=d.tup_inv;refine .tup xs _ (by simpa using hs) λj y u hy O=>?_;rw[Yj]at O;obtain⟨s,h,rfl⟩:=Yo.1 O;exact(hr j y s hy h).lo2
 |sln β z rs=>exact d.lo2|_=>exact d
section
variable {P:Program}{C:XC}{Q:Exit->St->Prop}{Y σ':St}{ks:L_ Fr}{ops:Array Oper}{o:Oper}{l:L_ Oper}
def Pl (I:Nat->Prop)(w:World)(β k:Nat):Prop:=I k/\β<=k/\∃h E,w.heap[k]? = X (.cells h E (0,0))
def V.new1 (β:Nat):V->Prop
 |.sln γ _ rs=>γ=β/\∀r∈rs,∀v∈r,v.sca=t_|v=>v.sca=t_
def XG.new1 {β:Nat}{I:Nat->Prop}{w:World}{x:Value}{v:V}(d:XG I w x v)(h:v.new1 β):XG (Pl I w β) w x v.lo1:=by
 cases v with
 |sln γ z rs=>
  obtain⟨rfl,h2⟩:=h;refine XG.lo1 (β:=γ) ?_;cases d with|sln0=>exact .sln0 _ _ _ _|sln _ b off len cap _ _ cs E hβ hI hl hc hr O hsz hd=>exact .sln γ b off len cap z rs cs E hβ ⟨hI,hβ,cs,E,O⟩ hl hc hr O hsz λi r hi j v hj=>(hd i r hi j v hj).sca (h2 r (XB hi) v (XB hj))
 |_=>first|exact d.sca h|cases h
def Qf.bld0 {T d e z by_:Nat}{zs:L_ V}(ho:o.op=.buildSlice T 0 #[])(O:o.dst=X d)(hn:B_ d C)(h:YD P T=X (e,z,by_))(hz:XY P e=X zs):Qf P C o Y (Y.put d .e0):=by
 refine Qf.val λZ a w hr=>?_;obtain⟨hu,i,hi,rfl,_⟩:=KI h;refine⟨.slice (X ⟨w.heap.size,0,n_⟩) 0 0,w.alloc (.cells #[] e),Z,?_,?_⟩
 ·simp only[execOp,ho,Instr.buildSlice,Xl,run_underlying hu,Xo,sizeOf,typeInfo,run_program,hi,Xx,Ij,if_true];simp[newRow,Instr.fill];rw[QgX,QlC]
 rw[O];exact(hr.step (w':=w.alloc (.cells #[] e)) rfl rfl rfl (by simp) λk hk=>heap_alloc_old w _ hk).put (XT hn) (.dat (.e0 _))
def Qf.appE0 {T U d e e' z z' by_ by':Nat}{x y:Operand}{us:L_ (L_ V)}{zs:L_ V}(ho:o.op=.call { callee:=.builtin .append,args:=#[x,y],argTypes:=#[T,U] })(hd:o.dst=X d)(hn:B_ d C)(hx:Y.opd x=X .e0)
  (hT:YD P T=X (e,z,by_)) (hU:YD P U=X (e',z',by')) (hz:XY P e=X zs) (hzl:zs.length=z) (hz0:z≠0) (hb1:1<=by_) (hb2:by_<=32768) (hsm:decide (us.length<=4294967296)=t_) (hy:Y.opd y=X (.sl z us)):Qf P C o Y (Y.put d (.sl z us)):=by
 refine Qf.val λZ a w hr=>?_;obtain⟨hu,i,hi,rfl,rfl⟩:=KI hT;obtain⟨hu',_⟩:=KI hU;obtain⟨i',zv,hi',hz',hmap⟩:=FU hz;rw[hi]at hi';cases hi';have hsm:=Xe hsm;have hzs:zv.cells.size=i.size:=by rw[<-hzl,<-hmap];simp
 have hpos:0<i.size:=Nat.pos_of_ne_zero hz0;have hbytes:us.length*i.bytes<=140737488355328:=Yq (Nat.mul_le_mul hsm hb2) (by decide);have hexec:∀base n c v w',a.eval x=.slice base n c->(Builtin.append_ #[T,T] o.type #[.slice base n c,a.eval y]).run P w=.ok v w'->(execOp a.eval o).run P w=.ok (.value v) w':=by
  intro base n c v w' h1 h;simp only[execOp,ho,resolve,invoke,builtin,Xl,Xx,Xo,List.map_toArray,GC,List.map_nil,h1,QiR hu hu' hi,h]
 obtain⟨q,hq⟩:∃q,a.eval x=.slice q 0 0:=by
  have:=hr.opd hx;generalize a.eval x=x0 at this;cases this with|dat d=>cases d with|e0 q=>exact⟨q,rfl⟩
 rcases(hr.opd hy).source_sl with⟨p,c,hp,h0⟩|⟨p,c,O,hyv,hnews,hcells,hone,hokU,hrowU⟩
 ·subst h0;exact⟨.slice q 0 0,w,Z,hexec _ _ _ _ _ hq (by rw[hp];exact NJ hu hi q p 0 0 c (Yk _)),by rw[hd];exact hr.put (XT hn) (.dat (.sl0 _ _ _))⟩
 by_cases h0:us=[]
 ·subst h0;exact⟨.slice q 0 0,w,Z,hexec _ _ _ _ _ hq (by rw[hyv];exact NJ hu hi q (X p) 0 0 c (Yk _)),by rw[hd];exact hr.put (XT hn) (.dat (.sl0 _ _ _))⟩
 have hpos2:0<us.length:=List.length_pos_iff.2 h0;have run:∃cap,us.length<=cap/\(Builtin.append_ #[T,T] o.type #[.slice q 0 0,a.eval y]).run P w=.ok (.slice (X ⟨w.heap.size,0,n_⟩) us.length cap) (w.drew.alloc (.cells (O.toArray++Builtin.zeroCells zv.cells (cap-us.length)) e)):=by
  cases q with
  |none=>
   refine⟨grownCap w us.length 0 e,grownCap_ge w us.length 0 e,?_⟩;rw[hyv];exact run_append_nil (P:=P) w T o.type e i zv hu hi hz' p us.length c O hnews hcells hpos2 (by omega) (by omega)
  |some q=>
   refine⟨grownCap w (0+us.length) 0 e,by have:=grownCap_ge w (0+us.length) 0 e;omega,?_⟩;rw[hyv];have:=run_append_grow (P:=P) w T o.type e i zv hu hi hz' q 0 0 [] (by simp) (λj v hj=>by simp at hj) p us.length c O hnews hcells (by omega) (by omega) (growslice_fits (by omega) (by simpa using hbytes));simpa using this
 obtain⟨cap,hge,hrun⟩:=run;refine⟨_,_,Z,hexec _ _ _ _ _ hq hrun,?_⟩;rw[hd];have hold:∀k,k<w.heap.size->(w.drew.alloc (.cells (O.toArray++Builtin.zeroCells zv.cells (cap-us.length)) e)).heap[k]? = w.heap[k]? := λk hk=>heap_alloc_old w.drew _ hk;have hst:=hr.step (w':=w.drew.alloc (.cells (O.toArray++Builtin.zeroCells zv.cells (cap-us.length)) e)) rfl rfl rfl (by simp) hold;refine hst.put (XT hn) (.dat (.sl w.heap.size 0 us.length cap i.size us (λj=>O.getD j undef) ⟨by simp,λh=>absurd hr.size (by omega),λo B hB hk=>absurd (hr.lt o B _ hB hk).1 (Nat.lt_irrefl _)⟩ rfl hge hokU (λj hj=>?_) (λm r hm j v hj=>?_)))
 ·have hlt:j<O.length:=by omega
  have hh:=heap_alloc_new w.drew (.cells (O.toArray++Builtin.zeroCells zv.cells (cap-us.length)) e);have hh:(w.drew.alloc (.cells (O.toArray++Builtin.zeroCells zv.cells (cap-us.length)) e)).heap[w.heap.size]? = _:=hh;simp only[World.cell?,hh,Gp];rw[QlB (by simpa using hlt)];simp[Sy,hlt]
 obtain⟨u,hu1,hu2⟩:=hrowU m r hm j v hj;rw[Sy,hu1];exact hu2.mono λk hk=>⟨⟨Ez hk.1 (by simp),hk.2⟩,hold k hk.1⟩
end
def Yx (A:Nat->Nat)(p:O_ Nat):V:=.lit (.pointer (p.map λk=>⟨A k,0,n_⟩))
def XJ (A:Nat->Nat)(p:O_ Nat):L_ V:=[Yx A p]
def We (A:Nat->Nat)(off k:Nat):V:=.lit (.pointer (X ⟨A k,off,n_⟩))
section
variable {P:Program}{C:XC}{Y:St}{o:Oper}{A:Nat->Nat}
def Qf.nilCheckP {d k:Nat}{p:O_ Nat}{x:Operand}(ho:o.op=.nilCheck x)(hd:o.dst=X d)(hn:B_ d C)(O:Y.opd x=X (Yx A p))(hp:p=X k):Qf P C o Y (Y.put d (We A 0 k)):=by
 subst hp;refine Qf.same hd hn λZ a w h=>⟨a.eval x,?_,h.opd O⟩;have:=(h.opd O).lit_inv;simp[execOp,ho,this]
def Qf.fieldP {T f d k off n m:Nat}{x:Operand}(ho:o.op=.fieldAddr T x f)(h:o.dst=X d)(hn:B_ d C)(hx:Y.opd x=X (We A off k))(hf:OD P T f=X n)(hm:off+n=m):Qf P C o Y (Y.put d (We A m k)):=by
 refine Qf.same h hn λZ a w hr=>?_;subst hm;have O:=(hr.opd hx).lit_inv;refine⟨.pointer (X ⟨A k,off+n,n_⟩),?_,.dat (.lit _)⟩;simp only[execOp,ho,O,Xl,QfE hf,Xo,Xx,Addr.add_lit]
def Qf.loadP {T d b k off z:Nat}{x:Operand}{rs:L_ (L_ V)}{r:L_ V}{v:V}(ho:o.op=.load T x)(hd:o.dst=X d)(hn:B_ d C)(hx:Y.opd x=X (We A off k))
  (hb:look Y.hp b=X (.tbl A z rs)) (hg:AW P T=X f_) (O:rs[k]? = X r) (hv:r[off]? = X v):Qf P C o Y (Y.put d v):=by
 refine Qf.same hd hn λZ a w hr=>?_;have he:=(hr.opd hx).lit_inv;rcases hr.heap b _ hb with⟨B,hB,h1,h2,h3,h4⟩|⟨_,h⟩
 ·obtain⟨cs,E,e1,e2,e3⟩:=h4 k r O;obtain⟨y,hy,hD⟩:=e3 off v hv;refine⟨y,?_,.dat hD⟩;have hc:w.cell? ⟨A k,off,n_⟩=X y:=by simp[World.cell?,e1,hy]
  simp only[execOp,ho,he,Xl,MY hg hc,Xo,Xx]
 subst h;simp at O
def Qf.storeP {T b k off z:Nat}{x y:Operand}{rs rs':L_ (L_ V)}{r:L_ V}{v:V}(ho:o.op=.store T x y)(hd:o.dst=n_)(hx:Y.opd x=X (We A off k))
  (hb:look Y.hp b=X (.tbl A z rs)) (hr':rs[k]? = X r) (hlt:Nat.ble (off+1) z=t_) (hy:Y.opd y=X v) (h1:v.one=t_) (hdat:v.dat=t_) (hs:CV P T=X 1) (he:rs.set k (r.set off v)=rs'):Qf P C o Y (Y.set b (.tbl A z rs')):=by
 refine Qf.skp λZ a w hr=>?_;subst he;have hev:=(hr.opd hx).lit_inv;have hv:=hr.opd hy;rcases hr.heap b _ hb with⟨B,hB,h⟩|⟨_,h⟩
 ·have hrep:=h;obtain⟨a1,a2,a3,a4⟩:=h;obtain⟨cs,E,e1,e2,e3⟩:=a4 k r hr';have hk:k<rs.length:=(Xf.1 hr').1;have hoff:off<cs.size:=by rw[e2];exact JC hlt
  have hvc:v.cells=[v]:=by cases v<;>first|rfl|simp[V.one]at h1
  have hrl:r.length=z:=(a3 r (XB hr')).1;have hc1:=(hv.oneCell h1).1;have hrun:=QfD (P:=P) (T:=T) (off:=off) (x:=a.eval y) hs (by rw[hc1];rfl) e1 (by omega) (hv.cells_one (.inl h1) (by rw[hvc];simp[h1]));rw[hc1]at hrun;have hnl:(cs.toList.take off++[a.eval y]++cs.toList.drop (off+1)).toArray.size=z:=by simp;omega
  have O:∀j:Nat,(cs.toList.take off++[a.eval y]++cs.toList.drop (off+1)).toArray[j]? = if j=off then X (a.eval y)else cs[j]? := λj=>by
   rw[CS];by_cases hj:j<off
   ·rw[Kh,Jh (by simp;omega),Kd,if_pos hj,if_neg (by omega)];simp
   by_cases hj2:j=off
   ·subst hj2;rw[Kh,Kc (by simp;omega),if_pos rfl];have:j-(List.take j cs.toList).length=0:=by rw[Kv];simp;omega
    rw[this];rfl
   rw[Kc (by simp;omega),UQ,if_neg hj2];simp only[YZ,Kv,WI,NG];rw[show off+1+(j-(min off cs.toList.length+(0+1)))=j by simp;omega];simp
  generalize hnc:(cs.toList.take off++[a.eval y]++cs.toList.drop (off+1)).toArray=nc at hnl O;have hrun':(Instr.storeAt T (.pointer (X ⟨A k,off,n_⟩)) (a.eval y)).run P w=.ok () (w.setRow (A k) nc):=by rw[<-hnc];exact hrun
  have hhas:B.has (A k):=(hrep.has _).2 ⟨k,hk,rfl⟩;have hinj:∀i,i<rs.length->A i=A k->i=k:=λi hi e=>by
   have hnd:=a2;rw[a1]at hnd;exact(List.getElem?_inj (by simpa using hi) hnd).1 (by rw[Yj,Yj,List.getElem?_range hi,List.getElem?_range hk];simp[e])
  have hI:∀j,Xp C Z w j->Xp C Z (w.setRow (A k) nc) j/\(w.setRow (A k) nc).heap[j]? = w.heap[j]? := λj hj=>⟨⟨by simpa using hj.1,hj.2⟩,setRow_other w _ j _ λe=>hj.2.2 b B hB (e▸hhas)⟩;refine⟨w.setRow (A k) nc,Z,?_,?_⟩
  ·simp only[execOp,ho,hev,Xl,hrun',Xo,Xx]
  rw[hd];have:=hr.change hB (B':=B) ⟨rfl,rfl,rfl,rfl⟩ (λ_=>rfl) (ob:=.tbl A z (rs.set k (r.set off v))) (w':=w.setRow (A k) nc) rfl rfl rfl (by simp) (λj _ hne=>setRow_other w _ j _ λe=>hne (e▸hhas))
   (λj hj=>⟨by simpa using (hr.lt b B j hB hj).1,.inl hj⟩) (by
    rw[Qg5 hB];refine⟨by rw[QgZ];exact a1,a2,λq hq=>?_,λi q hi=>?_⟩
    ·rcases Qg1 hq with hq|rfl
     ·exact a3 q hq
     obtain⟨b1,b2⟩:=a3 r (XB hr');refine⟨by rw[QgZ];exact b1,λu hu=>?_⟩;rcases Qg1 hu with hu|rfl
     ·exact b2 u hu
     exact h1
    by_cases e:i=k
    ·subst e;rw[Vn hk]at hi;cases hi;refine⟨nc,E,setRow_heap w _ cs _ E _ e1,hnl,λj u hu=>?_⟩;by_cases ej:j=off
     ·subst ej;rw[Vn (by omega)]at hu;cases hu;exact⟨a.eval y,by rw[O,if_pos rfl],(hv.toDat hdat).mono hI⟩
     rw[Vl (Ne.symm ej)]at hu;obtain⟨x',hx',hD⟩:=e3 j u hu;exact⟨x',by rw[O,if_neg ej];exact hx',hD.mono hI⟩
    rw[Vl (Ne.symm e)]at hi;obtain⟨cs2,E2,g1,g2,g3⟩:=a4 i q hi;have hi':i<rs.length:=(Xf.1 hi).1;exact⟨cs2,E2,(setRow_other w _ _ _ λe'=>e (hinj i hi' e')).trans g1,g2,λj u hu=>let ⟨x',hx',hD⟩:=g3 j u hu;⟨x',hx',hD.mono hI⟩⟩)
  rwa[Qg5 hB]at this
 subst h;simp at hr'
def QyU (t e:TypeId)(p:O_ Addr)(w:World)(h:P.underlying t=X (.pointer e)):(Op.equal t (.pointer p) (.pointer n_)).run P w=.ok p.isNone w:=by
 show(Op.equalIn (9999+1) t (.pointer p) (.pointer n_)).run P w=_;rw[Op.equalIn];cases p<;>simp only[Xl,run_underlying h,Xo,Xx]<;>rfl
def Qf.neqNilP {T U d e:Nat}{x y:Operand}{p:O_ Nat}(ho:o.op=.binOp .neq T x y U)(hd:o.dst=X d)(hn:B_ d C)(hx:Y.opd x=X (Yx A p))(hy:Y.opd y=X (.lit (.pointer n_)))(hT:P.underlying T=X (.pointer e)):Qf P C o Y (Y.put d (.b p.isSome)):=by
 refine Qf.same hd hn λZ a w hr=>?_;have h:=(hr.opd hx).lit_inv;have O:=(hr.opd hy).lit_inv;refine⟨.bool p.isSome,?_,.dat (.b _)⟩;simp only[execOp,ho,h,O];simp[eqGuard,binOp,QyU _ _ _ w hT]
def Ip {κ α:Type}[DecidableEq κ](l:L_ (κ×α))(k:κ):L_ (κ×α):=l.filter λp=>!decide (p.1=k)
def Qf.delete {T U b K E:Nat}{x y:Operand}{κ α:Type}[DecidableEq κ]{e:κ->V}{val:κ->Value}{f:α->V}{l:L_ (κ×α)}{k:κ}(ho:o.op=.call { callee:=.builtin .delete,args:=#[x,y],argTypes:=#[T,U] })(hd:o.dst=n_)
  (hx:Y.opd x=X (.map b)) (hb:look Y.hp b=X (.map (QO e f l))) (hy:Y.opd y=X (e k)) (hT:Rz P T=X (K,E)) (hk:Bz P K e val):
  Qf P C o Y (Y.set b (.map (QO e f (Ip l k)))):=by
 refine Qf.val λZ a w hr=>?_;obtain⟨B,hB,he⟩:=(hr.opd hx).map_inv;have hyv:a.eval y=val k:=hk.inv _ _ _ _ ((hr.opd hy).toDat (hk.edat k));obtain⟨D,hD,_⟩:=hk.d;have hrep:=hr.block hB hb;obtain⟨es,O,h1,h2,h3,h4,h5,h6⟩:=EA.find hk hD hrep k;obtain⟨es',clock',h1',_,_,_,r5,r6⟩:=hrep;rw[h1]at h1';cases h1';have hlt:B.b<w.heap.size:=(hr.lt b B _ hB B.self).1;have write:∀(es2:Array MapEntry) (l2:L_ (κ×α)),MapKept.Stamped es2 O->(l2.map Prod.fst).Nodup->es2.size=l2.length->
   (∀x∈es2.toList,∃p∈l2,x.key=val p.1/\XG (Xp C Z w) w x.val (f p.2))->(∀p∈l2,∃x∈es2.toList,x.key=val p.1/\XG (Xp C Z w) w x.val (f p.2))->
   RR C Z (Y.set b (.map (QO e f l2))) a { w with heap:=w.heap.setIfInBounds B.b (.map es2 O) }:=by
  intro es2 l2 a1 a2 a3 a4 a5;have hI:∀k,Xp C Z w k->Xp C Z { w with heap:=w.heap.setIfInBounds B.b (.map es2 O) } k/\(w.heap.setIfInBounds B.b (.map es2 O))[k]? = w.heap[k]? := λk hk'=>
   ⟨⟨by simpa using hk'.1,hk'.2⟩,Uh _ λe=>hk'.2.2 b B hB (.inl e)⟩
  refine hr.write hB rfl rfl rfl (by simp) (λk hne=>Uh _ hne) ⟨es2,O,by simp[hlt],a1,(Vr hk.einj).2 a2,by rw[a3,QO,Dx],λx hx=>?_,λp hp=>?_⟩
  ·obtain⟨p,hp,e1,e2⟩:=a4 x hx;exact⟨_,Yt.2 ⟨p,hp,rfl⟩,by rw[e1];exact hk.dat _ _ _,e2.mono hI⟩
  obtain⟨q,hq,rfl⟩:=Yt.1 hp;obtain⟨x,hx,e1,e2⟩:=a5 q hq;exact⟨x,hx,by rw[e1];exact hk.dat _ _ _,e2.mono hI⟩
 have old1:∀x∈es.toList,∃p∈l,x.key=val p.1/\XG (Xp C Z w) w x.val (f p.2):=λx hx=>by
  obtain⟨p,hp,a1,a2⟩:=r5 x hx;obtain⟨q,hq,rfl⟩:=Yt.1 hp;exact⟨q,hq,hk.inv _ _ _ _ a1,a2⟩
 have old2:∀p∈l,∃x∈es.toList,x.key=val p.1/\XG (Xp C Z w) w x.val (f p.2):=λp hp=>by
  obtain⟨x,hx,a1,a2⟩:=r6 _ (Yt.2 ⟨p,hp,rfl⟩);exact⟨x,hx,hk.inv _ _ _ _ a1,a2⟩
 have hnd:((Ip l k).map Prod.fst).Nodup:=(List.filter_sublist.map _).nodup h3;rcases h6 with⟨g1,g2,g3⟩|⟨j,xx,v0,g1,g2,g3,g4,g5⟩
 ·refine⟨.tuple #[],{ w with heap:=w.heap.setIfInBounds B.b (.map es O) },Z,?_,?_⟩
  ·simp[execOp,ho,he,hyv,resolve,invoke,builtin,Builtin.delete_,run_underlying (Hv hT),MapKept.run_getObj_map h1,MapKept.run_checkKey hD h5,MapKept.run_findKey hD g2,MapKept.run_setObj_map _ h1]
  rw[hd];have hml:Ip l k=l:=List.filter_eq_self.2 λp hp=>by
   have:p.1≠k:=λe'=>by rw[show Xg l k=X p.2 from QfJ h3 (by rw[<-e'];exact hp)]at g1;cases g1
   simp[this]
  rw[hml];exact write es l h2 h3 h4 old1 old2
 have hjlt:j<es.size:=(Cg.1 g3).1;have hlist:(es.eraseIdxIfInBounds j).toList=es.toList.eraseIdx j:=by
  unfold Array.eraseIdxIfInBounds;rw[dif_pos hjlt];simp
 have hkeyj:∀i x,es[i]? = X x->x.key=val k->i=j:=λi x hx hxk=>by
  have hnd:=h2.2.2;have i1:(es.toList.map (·.key))[i]? = X (val k):=by simp[Yj,hx,hxk]
  have i2:(es.toList.map (·.key))[j]? = X (val k):=by simp[Yj,g3,g4]
  exact(List.getElem?_inj (by simpa using (Cg.1 hx).1) hnd).1 (i1.trans i2.symm)
 have hmem:∀x,x∈(es.eraseIdxIfInBounds j).toList↔x∈es.toList/\x.key≠val k:=λx=>by
  rw[hlist,List.mem_eraseIdx_iff_getElem?];constructor
  ·rintro ⟨i,hne,hi⟩;have hi':es[i]? = X x:=by simpa using hi
   exact⟨XB hi,λe'=>hne (hkeyj i x hi' e')⟩
  rintro ⟨hx,hne⟩;obtain⟨i,hi⟩:=NH.1 hx;refine⟨i,λe'=>?_,hi⟩;subst e';rw[show es.toList[i]? = X xx by simpa using g3]at hi;cases hi;exact hne g4
 have hdm:∀p,p∈Ip l k↔p∈l/\p.1≠k:=λp=>by simp[Ip,FP]
 refine⟨.tuple #[],{ w with heap:=w.heap.setIfInBounds B.b (.map (es.eraseIdxIfInBounds j) O) },Z,?_,?_⟩
 ·simp[execOp,ho,he,hyv,resolve,invoke,builtin,Builtin.delete_,run_underlying (Hv hT),MapKept.run_getObj_map h1,MapKept.run_checkKey hD h5,MapKept.run_findKey hD g2,MapKept.run_setObj_map _ h1]
 rw[hd];refine write _ _ (MapKept.stamped_erase h2 j) hnd ?_ (λx hx=>?_) λp hp=>?_
 ·have e1:(es.eraseIdxIfInBounds j).size=es.size-1:=by
   have:=congrArg List.length hlist;rw[List.length_eraseIdx,if_pos (by simpa using hjlt)]at this;simpa only[Array.length_toList] using this
  have e2:(Ip l k).length+1=l.length:=by
   have hm:=Qhf g1;have:∀(l:L_ (κ×α)),(l.map Prod.fst).Nodup->(k,v0)∈l->(Ip l k).length+1=l.length:=by
    intro l
    induction l with
    |nil=>intro _ h;cases h
    |cons p l ih=>
     intro hn hm;rw[GC,NI]at hn;rcases XP.1 hm with rfl|hm
     ·have:Ip ((k,v0)::l) k=l:=by
       unfold Ip;rw[Ax,if_neg (by simp)];exact List.filter_eq_self.2 λq hq=>by
        have:q.1≠k:=λe'=>hn.1 (Yt.2 ⟨q,hq,e'⟩);simp[this]
      rw[this];rfl
     have hne:p.1≠k:=λe'=>hn.1 (Yt.2 ⟨_,hm,e'.symm⟩);have:Ip (p::l) k=p::Ip l k:=by unfold Ip;rw[Ax,if_pos (by simp[hne])]
     rw[this,WI,ih hn.2 hm,WI]
   exact this l h3 hm
  rw[e1,h4];omega
 ·obtain⟨hx1,hx2⟩:=(hmem x).1 hx;obtain⟨p,hp,a1,a2⟩:=old1 x hx1;exact⟨p,(hdm p).2 ⟨hp,λe'=>hx2 (by rw[a1,e'])⟩,a1,a2⟩
 obtain⟨hp1,hp2⟩:=(hdm p).1 hp;obtain⟨x,hx,a1,a2⟩:=old2 p hp1;exact⟨x,(hmem x).2 ⟨hx,λe'=>hp2 (hk.inj _ _ (by rw[<-a1,e']))⟩,a1,a2⟩
def RR.grow {Z:Nat->O_ Xh}{a:Act}{w:World}(hr:RR C Z Y a w){b z T:Nat}{rs:L_ (L_ V)}{cs:L_ V}{ys:Array Value}(hb:look Y.hp b=X (.tbl A z rs))(hlt:b<621)(hz:cs.length=z)(h1:∀v∈cs,v.one=t_)
  (hs:ys.size=z) (hc:∀(j:Nat) x v,ys[j]? = X x->cs[j]? = X v->XG (Xp C Z w) w x v):
  ∃φ',RR C φ' ((Y.kill b).set b (.tbl (λi=>if i=rs.length then w.heap.size else A i) z (rs++[cs]))) a (w.alloc (.cells ys T)):=by
 generalize hA':(λi=>if i=rs.length then w.heap.size else A i)=A';have hnew:A' rs.length=w.heap.size:=by rw[<-hA'];simp
 have hold:∀i,i<rs.length->A' i=A i:=λi hi=>by rw[<-hA'];simp[Nat.ne_of_lt hi]
 have hrng:(List.range (rs++[cs]).length).map A'=(List.range rs.length).map A++[w.heap.size]:=by
  rw[YZ,WI,NG,List.range_succ,QaU,GC,List.map_nil,hnew];congr 1;exact QaV λi hi=>hold i (CU.1 hi)
 have hok:(∀r∈rs,Bv z r)->∀r∈rs++[cs],Bv z r:=λh r hr=>by
  rcases YT.1 hr with hr|hr
  ·exact h r hr
  rw[LA.1 hr];exact⟨hz,h1⟩
 have row:∀{I:Nat->Prop},(∀k,Xp C Z w k->I k)->∃cs2 E,(w.alloc (.cells ys T)).heap[w.heap.size]? = X (.cells cs2 E (0,0))/\cs2.size=z/\∀(j:Nat) v,cs[j]? = X v->∃x,cs2[j]? = X x/\XG I (w.alloc (.cells ys T)) x v:=λ{I} hI=>by
  refine⟨ys,T,heap_alloc_new w _,hs,λj v hv=>?_⟩;have hj:j<ys.size:=by rw[hs,<-hz];exact(Xf.1 hv).1
  exact⟨ys[j],AV hj,(hc j _ v (AV hj) hv).mono λk O=>⟨hI k O,Below.heap_alloc w _ k O.1⟩⟩
 rcases hr.heap b _ hb with⟨B,hB,hrep⟩|⟨hn,h⟩
 ·let B':Xh:=⟨B.b,B.cap,B.z,B.more++[w.heap.size],B.off⟩;have hhas:∀k,B'.has k↔B.has k\/k=w.heap.size:=λk=>by simp[Xh.has,B',or_assoc]
  have hI0:∀k,Xp C Z w k->Xp C (ext Z b B') (w.alloc (.cells ys T)) k:=λk O=>⟨by have:=O.1;simp;omega,O.2.1,λo B1 h1=>by
   by_cases e:o=b
   ·subst e;rw[XQ]at h1;cases h1;rw[hhas];rintro (h2|h2)
    ·exact O.2.2 _ B hB h2
    have:=O.1;omega
   rw[Xz _ e]at h1;exact O.2.2 o B1 h1⟩
  have:=hr.change hB (B':=B') ⟨rfl,rfl,rfl,rfl⟩ (λh=>absurd hlt (by omega)) (ob:=.tbl A' z (rs++[cs])) (w':=w.alloc (.cells ys T)) rfl rfl rfl (by simp) (λk O _=>Below.heap_alloc w _ k O)
   (λk O=>by
    rcases(hhas k).1 O with h2|h2
    ·exact⟨by have:=(hr.lt b B k hB h2).1;simp;omega,.inl h2⟩
    ·exact⟨by simp;omega,.inr (by omega)⟩) (by
    refine⟨by rw[hrng,<-hrep.1];rfl,?_,hok hrep.2.2.1,λi q hi=>?_⟩
    ·show((B.b::B.more)++[w.heap.size]).Nodup;rw[List.nodup_append];refine⟨hrep.2.1,by simp,λx hx y hy=>?_⟩;rw[LA.1 hy];have:=(hr.lt b B x hB (by unfold Xh.has;exact XP.1 hx)).1;omega
    rcases DP i rs.length with hlt'|hge
    ·rw[Jh hlt']at hi;obtain⟨cs2,E,g1,g2,g3⟩:=hrep.2.2.2 i q hi;have hAi:A i<w.heap.size:=(hr.lt b B _ hB ((hrep.has _).2 ⟨i,hlt',rfl⟩)).1;exact⟨cs2,E,by rw[hold i hlt',Below.heap_alloc w _ _ hAi];exact g1,g2,λj u hu=>let ⟨x',hx',hD⟩:=g3 j u hu;⟨x',hx',hD.mono λk O=>⟨hI0 k O,Below.heap_alloc w _ k O.1⟩⟩⟩
    have hi0:i=rs.length:=by have:=(Xf.1 hi).1;simp at this;omega
    subst hi0;rw[Kc (Yk _),Nat.sub_self]at hi;simp at hi;subst hi;rw[hnew];exact row hI0)
  have h2:=this.reset b (.tbl A' z (rs++[cs])) ⟨_,St.look_set_same _ _ _⟩ (.inl ⟨B',XQ _ _ _,this.block (XQ _ _ _) (St.look_set_same _ _ _)⟩);rw[St.set_kill]at h2;exact⟨_,h2⟩
 replace h:rs=[]:=h;subst h;have O:=hr.kill b;have hnone:look (Y.kill b).hp b=n_:=by
  cases h:look (Y.kill b).hp b with|none=>rfl|some ob=>exact absurd rfl (Dt _ _ _ h).1
 have hdel:BQ Z b=Z:=by
  funext k;by_cases e:k=b
  ·subst e;rw[Qha,hn]
  rw[EW e]
 have hI1:=O.imm_alloc b 0 0 (.cells ys T) (Qha _ _);refine⟨_,O.alloc (cap:=0) (z:=0) hnone hlt (ob:=.tbl A' z ([]++[cs])) (obj:=.cells ys T) ⟨?_,by simp,hok (by simp),λi q hi=>?_⟩⟩
 ·rw[hrng];rfl
 have hi0:i=0:=by have:=(Xf.1 hi).1;simp at this;omega
 subst hi0;simp at hi;subst hi;have:A' 0=w.heap.size:=hnew;rw[this];exact row λk hk'=>(hI1 k (by rw[hdel];exact hk')).1
def AK.boxP {Q:Exit->St->Prop}{ops:Array Oper}{rest:L_ Oper}{ks:L_ Fr}{T d b z:Nat}{x:Operand}{n:Nat}{O:L_ V}{rs rsN:L_ (L_ V)}(hg:o.guard=n_)(ho:o.op=.box T x)(hd:o.dst=X d)(hn:B_ d C)(hx:Y.opd x=X (.agg O))
  (hb:look Y.hp b=X (.tbl A z rs)) (hlt:Nat.ble 621 b=f_) (hz:Nat.beq O.length z=t_) (h1:O.all V.one=t_) (h2:O.all V.dat=t_) (hrn:rs.length=n) (hr2:rs++[O]=rsN)
  (k:∀A':Nat->Nat,(∀i,i<n->A' i=A i)->AK P C Q (.o ops rest) ks (((Y.kill b).set b (.tbl A' z rsN)).put d (Yx A' (X n)))):AK P C Q (.o ops (o::rest)) ks Y:=by
 subst hrn hr2;intro a w ⟨Z,hr⟩;simp only[wpListIn,Region.wanted,hg,if_true];refine⟨λ_ _=>trivial,?_⟩;have hv:=hr.opd hx;obtain⟨hs,hc⟩:=hv.cells (.inr ⟨_,rfl⟩);have hex:(execOp a.eval o).run P w=.ok (.value (.pointer (X ⟨w.heap.size,0,n_⟩))) (w.alloc (.cells (a.eval x).cells T)):=by simp[execOp,ho,Instr.box,newVar,newRow]
 rw[QiO hex];rw[XS]at h1 h2;have hz':=Yp hz;have hlt':b<621:=by
  rcases DP b 621 with h|h
  ·exact h
  rw[Vp h]at hlt;cases hlt
 obtain⟨φ',hr'⟩:=hr.grow (T:=T) (ys:=(a.eval x).cells) hb hlt' hz' h1 (by rw[hs];exact hz') λj x' v hx' hv'=>(hc j x' v hx' hv').toDat (h2 v (XB hv'));refine k (λi=>if i=rs.length then w.heap.size else A i) (λi hi=>by simp[Nat.ne_of_lt hi]) _ _ ⟨φ',?_⟩;rw[hd];refine hr'.put (XT hn) ?_;have:(Yx (λi=>if i=rs.length then w.heap.size else A i) (X rs.length))=.lit (.pointer (X ⟨w.heap.size,0,n_⟩)):=by simp[Yx]
 rw[this];exact .dat (.lit _)
def AK.newTbl {Q:Exit->St->Prop}{pt:Pt}{ks:L_ Fr}(b z:Nat)(A:Nat->Nat)(hb:look Y.hp b=n_)(hlt:Nat.ble 621 b=f_)(k:AK P C Q pt ks (Y.set b (.tbl A z []))):AK P C Q pt ks Y:=by
 have hlt':b<621:=by
  rcases DP b 621 with h|h
  ·exact h
  rw[Vp h]at hlt;cases hlt
 refine AK.weaken (λa w ⟨Z,h⟩=>⟨Z,?_⟩) k;have hn:=h.none_of_look hb;refine⟨h.os,h.tape,h.output,h.size,h.kept,h.inj,?_,h.lt,h.new,⟨h.stay.1,λo ob B hge ho hB=>h.stay.2 o ob B hge (by rwa[Y.look_set_other _ (by omega)]at ho) hB⟩,h.tmps,h.defers,h.frame,?_⟩
 ·intro o B hB;by_cases e:o=b
  ·subst e;exact⟨_,Y.look_set_same _ _⟩
  obtain⟨ob,h1⟩:=h.dom o B hB;exact⟨ob,by rw[Y.look_set_other _ (Ne.symm e)];exact h1⟩
 intro o ob O;by_cases e:o=b
 ·subst e;rw[Y.look_set_same]at O;cases O;exact .inr ⟨hn,rfl⟩
 rw[Y.look_set_other _ (Ne.symm e)]at O;exact h.heap o ob O
def okP (n:Nat)(p:O_ Nat):Bool:=match p with|some k=>decide (k<n)|none=>t_
def Qt8 {O:Nat->Nat}{n:Nat}{p:O_ Nat}(h:∀i,i<n->O i=A i)(hp:okP n p=t_):Yx A p=Yx O p:=by
 cases p with|none=>rfl|some k=>simp only[okP,Qw]at hp;simp[Yx,h k hp]
def QyV {O:Nat->Nat}{n:Nat}{l:L_ (O_ Nat)}(h:∀i,i<n->O i=A i)(hl:l.all (okP n)=t_):l.map (XJ A)=l.map (XJ O):=by
 rw[XS]at hl;exact QaV λp hp=>by rw[XJ,XJ,Qt8 h (hl p hp)]
def QyW {κ:Type}{e:κ->V}{O:Nat->Nat}{n:Nat}{l:L_ (κ×O_ Nat)}(h:∀i,i<n->O i=A i)(hl:l.all (λq=>okP n q.2)=t_):QO e (Yx A) l=QO e (Yx O) l:=by
 rw[XS]at hl;exact QaV λp hp=>by rw[Qt8 h (hl p hp)]
end
end Go.Vm
namespace Go.Vm
open Go Go.RowKit Go.Shelf Go.Lib Go.Proofs
open Option renaming some→X,none→n_
def SE {P:Program}(w:World)(dT sT ty O:TypeId)(g o dLen dCap:Nat)(a:Addr)(sLen sCap z m:Nat)(h:Array Value)(t:TypeId)(cs:L_ Value)
  (hu:P.underlying dT=X (.slice O)) (hs:(P.info? O).map (·.size)=X z)
  (hg:w.heap[g]? = X (.cells h t (0,0))) (hm:Nat.min sLen dLen=m) (hn:cs.length=m*z)
  (hsrc:∀(j:Nat) v,cs[j]? = X v->w.cell? (a.add j)=X v) (hfit:o+cs.length<=h.size) (h1:∀v∈cs,v.oneCell'=true):
  (Builtin.copy_ #[dT,sT] ty #[.slice (X ⟨g,o,n_⟩) dLen dCap,.slice (X a) sLen sCap]).run P w =
   .ok (goInt m) (w.setRow g (h.toList.take o++cs++h.toList.drop (o+cs.length)).toArray):=by
 have hl:=run_loadCells_list (P:=P) w a cs hsrc;have hst:=run_storeCells_at P g o t cs 0 h w hg (by simpa using hfit) h1;cases hq:P.info? O with
 |none=>simp[hq]at hs|some i=>
  have hi:i.size=z:=by simpa[hq] using hs
  simp[Builtin.copy_,run_underlying hu,Builtin.lenOf,Builtin.firstCells,sizeOf,typeInfo,hq,hi,hm,<-hn,hl,hst]
noncomputable def QzU (ρ:Ren)(nm:String):Func:={ Body2.n22 ρ with name:=nm }
noncomputable def ovF (ρ:Ren)(nm:String):Func:={ Body2.n29 ρ with name:=nm }
def Qht (ρ:Ren)(nm:String):(QzU ρ nm).ntmps=95:=rfl
structure Qi5 (P:Program) (ρ:Ren) (n1 n2:String) (E z by_:Nat) (zv:Value):Prop where
 mixed:P.follows .mixedOrders=true
 f22:P.funcs[ρ.f 22]? = X (QzU ρ n1)
 f29:P.funcs[ρ.f 29]? = X (ovF ρ n2)
 nm:(n2 == "runtime.NumGoroutine")=false
 nx:Extern.findNext (ovF ρ n2)=n_
 fd:Extern.find (ovF ρ n2)=X (Extern.SlicesOverlaps.overlaps #[(ρ.t 24),(ρ.t 24)] #[(ρ.t 4)])
 t0:P.underlying (ρ.t 0)=X (TypeDesc.tuple #[])
 t3:P.underlying (ρ.t 3)=X (TypeDesc.int IntKind.i64)
 t4:P.underlying (ρ.t 4)=X (TypeDesc.bool)
 t24:P.underlying (ρ.t 24)=X (TypeDesc.slice E)
 zE:∀w,(Go.sizeOf E).run P w=.ok z w
 iE:(P.info? E).map (λi=>(i.zero,i.size,i.bytes))=X (X zv,z,by_)
 zc:zv.cells.size=z
 z0:0<z
 small:by_<=32768
variable {P:Program}{ρ:Ren}{n1 n2:String}{E z by_:Nat}{zv:Value}
def Qbp (l:L_ Value)(o:Nat)(vs:L_ Value)(h:o+vs.length<=l.length)(k:Nat):
  (l.take o++vs++l.drop (o+vs.length))[k]? = if k<o then l[k]? else if k<o+vs.length then vs[k-o]? else l[k]? := by
 by_cases O:k<o
 ·rw[if_pos O,Kh,Jh (by simp;omega),Kd,if_pos O]
 rw[if_neg O];by_cases h2:k<o+vs.length
 ·rw[if_pos h2,Jh (by simp;omega),Kc (by simp;omega)];congr 1;simp;omega
 rw[if_neg h2,Kc (by simp;omega),UQ];congr 1;simp;omega
def MH (l:L_ Value)(o:Nat)(vs:L_ Value)(h:o+vs.length<=l.length):(l.take o++vs++l.drop (o+vs.length)).length=l.length:=by simp;omega
set_option maxHeartbeats 4000000 in
set_option maxRecDepth 619 in
def Qwb (L:Qi5 P ρ n1 n2 E z by_ zv)(b off n c i vb voff vc:Nat)(O vcur:Array Value)(Eb Ev:TypeId)(cs vs:L_ Value)(w:World)(hi:i<n)(hroom:n+1<=c)(hn32:n+1<=4294967296)(hg:w.heap[b]? = X (.cells O Eb (0,0)))
  (hfit:off+c*z<=O.size) (hcl:cs.length=n*z) (hcs:∀(j:Nat) v,cs[j]? = X v->O[off+j]? = X v) (h1c:∀v∈cs,v.oneCell'=true) (hvl:vs.length=z) (hvg:w.heap[vb]? = X (.cells vcur Ev (0,0)))
  (hvs:∀(j:Nat) v,vs[j]? = X v->vcur[voff+j]? = X v) (hvb:vb≠b) (h1v:∀v∈vs,v.oneCell'=true):
  Calls P (ρ.f 22) #[.slice (X ⟨b,off,n_⟩) n c,.int .i64 i,.slice (X ⟨vb,voff,n_⟩) 1 vc] w λe w'=>
   e=.returned (.slice (X ⟨b,off,n_⟩) (n+1) c)/\w'.os=w.os/\w'.tape=w.tape/\w'.output=w.output/\w'.heap.size=w.heap.size/\(∀k,k≠b->w'.heap[k]? = w.heap[k]?)/\
   ∃cur':Array Value,w'.heap[b]? = X (.cells cur' Eb (0,0))/\cur'.size=O.size/\∀(j:Nat) v,(cs.take (i*z)++vs++cs.drop (i*z))[j]? = X v->cur'[off+j]? = X v:=by
 have t0:=L.t0;have t3:=L.t3;have t4:=L.t4;have t24:=L.t24;have u0:=run_underlying L.t0;have u3:=run_underlying L.t3;have u4:=run_underlying L.t4;have u24:=run_underlying L.t24;have zE:=L.zE;have mixed:=L.mixed;obtain⟨i0,hi0,hz0,hzs,hzb⟩:=info_parts L.iE;have hsz:(P.info? E).map (·.size)=X z:=by rw[hi0];simp[hzs]
 have hzp:=L.z0;have hnz:n*z+z<=c*z:=by have:=Jr z hroom;rwa[Je,OC]at this
 have hin:(i+1)*z<=n*z:=Jr z hi;have hi1:(i+1)*z=i*z+z:=by rw[Je,OC]
 have hov:∀lb cb,(callFunc (ρ.f 29) #[.slice (X ⟨vb,voff,n_⟩) 1 vc,.slice (X ⟨b,off+(i*z+z),n_⟩) lb cb]).run P w=.ok (.value (.bool false)) w:=λlb cb=>by
  rw[run_callFunc_extern L.f29 L.nm rfl L.nx L.fd,
   Lib.run_overlaps_apart w (ρ.t 24) (ρ.t 4) E L.t24 z L.zE ⟨vb,voff,n_⟩ ⟨b,off+(i*z+z),n_⟩ 1 vc lb cb hvb Ev Eb vcur.size O.size (by simp[World.shape?,hvg]) (by simp[World.shape?,hg]) (by omega) (by simp[World.frozen?,hvg]) (by simp[World.frozen?,hvg])]
  rfl
 have hz1:¬((1:Int)=0):=by omega
 have hz2:¬((i:Int)=(n:Int)):=by omega
 have hdl:(cs.drop (i*z)).length=(n-i)*z:=by rw[NF,hcl,Nat.sub_mul]
 have hw1:IntKind.i64.wrap ((i:Int)+1)=(i:Int)+1:=by rw[IntKind.wrap_i64];omega
 have hw2:IntKind.i64.wrap ((n:Int)+1)=(n:Int)+1:=by rw[IntKind.wrap_i64];omega
 have hb0:(0:Int)<=(i:Int):=by omega
 have hb1:(0:Int)<=(i:Int)+1:=by omega
 have hb5:(0:Int)<=(n:Int)+1:=by omega
 have hin':i<=n:=by omega
 have htn:((i:Int)+1).toNat=i+1:=by omega
 have htn2:((n:Int)+1).toNat=n+1:=by omega
 have hb2:¬(c=i+1):=by omega
 have hb3:(i:Int)<=(n:Int)+1:=by omega
 have hb4:¬(c=i):=by omega
 have hb6:(i:Int)+1<=(n:Int)+1:=by omega
 have hb7:¬((c:Int)<(n:Int)+1):=by omega
 have hb8:(n:Int)+1<=(c:Int):=by omega
 have hb9:(i:Int)<=(n:Int):=by omega
 obtain⟨h,hcur1⟩:∃h:Array Value,h=(O.toList.take (off+(i*z+z))++cs.drop (i*z)++O.toList.drop (off+(i*z+z)+(cs.drop (i*z)).length)).toArray:=⟨_,rfl⟩;have hni:n*z=i*z+(n-i)*z:=by rw[<-Je];congr 1;omega
 have hl1:off+(i*z+z)+(cs.drop (i*z)).length<=O.toList.length:=by rw[hdl];simp;omega
 have hs1:h.size=O.size:=by rw[hcur1];simpa using MH O.toList _ _ hl1
 have hcp1:∀ty dc sc,(Builtin.copy_ #[(ρ.t 24),(ρ.t 24)] ty #[.slice (X ⟨b,off+(i*z+z),n_⟩) (n-i) dc,.slice (X ⟨b,off+i*z,n_⟩) (n+1-i) sc]).run P w.drew=.ok (goInt (n-i:Nat)) (w.drew.setRow b h):=λty dc sc=>by
  rw[hcur1];exact SE w.drew _ _ ty E b (off+(i*z+z)) (n-i) dc ⟨b,off+i*z,n_⟩ (n+1-i) sc z (n-i) O Eb (cs.drop (i*z)) L.t24 hsz hg (by simp only[Nat.min_def];split<;>omega) hdl
   (λj v hj=>by
    rw[UQ]at hj;have:=hcs _ v hj;rw[Addr.add_lit];show(match w.heap[b]? with|some (.cells c _ _)=>c[off+i*z+j]? | _=>n_)=X v
    simp only[hg,OA,this]) (by simpa using hl1) (λv hv=>h1c v (QaX hv))
 obtain⟨cur2,hcur2⟩:∃cur2:Array Value,cur2=(h.toList.take (off+i*z)++vs++h.toList.drop (off+i*z+vs.length)).toArray:=⟨_,rfl⟩;have hl2:off+i*z+vs.length<=h.toList.length:=by rw[hvl];simp[hs1];omega
 have hs2:cur2.size=O.size:=by rw[hcur2,<-hs1];simpa using MH h.toList _ _ hl2
 have hcp2:∀(W:World),W.heap=(w.setRow b h).heap->∀ty dc,(Builtin.copy_ #[(ρ.t 24),(ρ.t 24)] ty #[.slice (X ⟨b,off+i*z,n_⟩) (n+1-i) dc,.slice (X ⟨vb,voff,n_⟩) 1 vc]).run P W=.ok (goInt (1:Nat)) (W.setRow b cur2):=λW hW ty dc=>by
  rw[hcur2];exact SE W _ _ ty E b (off+i*z) (n+1-i) dc ⟨vb,voff,n_⟩ 1 vc z 1 h Eb vs L.t24 hsz (by rw[hW];exact setRow_heap w b O _ Eb _ hg) (by simp only[Nat.min_def];split<;>omega) (by rw[hvl,OC])
   (λj v hj=>by
    have:=hvs _ v hj;rw[Addr.add_lit];have hh:W.heap[vb]? = X (.cells vcur Ev (0,0)):=by rw[hW,setRow_other w b vb _ hvb];exact hvg
    show(match W.heap[vb]? with|some (.cells c _ _)=>c[voff+j]? | _=>n_)=X v
    simp only[hh,this]) (by simpa using hl2) h1v
 have hfin:∀(j:Nat) v,(cs.take (i*z)++vs++cs.drop (i*z))[j]? = X v->cur2[off+j]? = X v:=λj v hj=>by
  have e1:∀k:Nat,h.toList[k]? = if k<off+(i*z+z)then O.toList[k]? else if k<off+(i*z+z)+(cs.drop (i*z)).length then(cs.drop (i*z))[k-(off+(i*z+z))]? else O.toList[k]? := λk=>by rw[hcur1,List.toList_toArray];exact Qbp _ _ _ hl1 k
  rw[hcur2,CS,Qbp _ _ _ hl2];have htl:(cs.take (i*z)).length=i*z:=by rw[Kv,hcl];omega
  by_cases h1:j<i*z
  ·rw[Kh,Jh (by omega),Kd,if_pos h1]at hj;rw[if_pos (by omega),e1,if_pos (by omega)];simpa using hcs j v hj
  by_cases h2:j<i*z+z
  ·rw[Jh (by rw[YZ];omega),Kc (by omega)]at hj;rw[if_neg (by omega),if_pos (by omega),<-hj];congr 1;omega
  rw[Kc (by rw[YZ];omega)]at hj;have hjl:=(Xf.1 hj).1;rw[hdl,YZ]at hjl;rw[if_neg (by omega),if_neg (by omega),e1,if_neg (by omega),if_pos (by rw[hdl];omega),<-hj];congr 1;rw[YZ];omega
 have hlast:∀W:World,W.heap=((w.setRow b h).setRow b cur2).heap->W.heap.size=w.heap.size/\(∀k,k≠b->W.heap[k]? = w.heap[k]?)/\
   ∃cur':Array Value,W.heap[b]? = X (.cells cur' Eb (0,0))/\cur'.size=O.size/\∀(j:Nat) v,(cs.take (i*z)++vs++cs.drop (i*z))[j]? = X v->cur'[off+j]? = X v:=λW hW=>by
  refine⟨by rw[hW];simp,λk hk=>by rw[hW,setRow_other _ b k _ hk,setRow_other _ b k _ hk],cur2,?_,hs2,hfin⟩;rw[hW];exact setRow_heap _ b h _ Eb _ (setRow_heap w b O _ Eb _ hg)
 clear hfin hs2 hl2 hcur2 hs1 hl1 hcur1
 go_enter L.f22,Qht ρ n1
 go_wp2_with (simp only[hov])
 go_region_law_o (refine step_copy_runI rfl _ _ (ρ.t 24) (ρ.t 24) rfl _ _ (by simp[Act.eval,Act.put]) (by simp[Act.eval,Act.put]) (hcp1 _ _ _) ?_)
 go_wp2_with (refine wpList_copy_runI _ rfl _ _ (ρ.t 24) (ρ.t 24) rfl _ _ rfl rfl (hcp2 _ (by rfl) _ _) ?_)
 go_ret
 exact⟨rfl,rfl,rfl,rfl,hlast _ rfl⟩
set_option maxHeartbeats 4000000 in
set_option maxRecDepth 619 in
def QxK (L:Qi5 P ρ n1 n2 E z by_ zv)(b off n c i vb voff vc:Nat)(cur vcur:Array Value)(Eb Ev:TypeId)(cs vs:L_ Value)(w:World)(hi:i<n)(hnc:n<=c)(hroom:c<n+1)(hn32:n+1<=4294967296)(hg:w.heap[b]? = X (.cells cur Eb (0,0)))
  (hcl:cs.length=n*z) (hcs:∀(j:Nat) v,cs[j]? = X v->cur[off+j]? = X v) (h1c:∀v∈cs,v.oneCell'=true) (hvl:vs.length=z) (hvg:w.heap[vb]? = X (.cells vcur Ev (0,0)))
  (hvs:∀(j:Nat) v,vs[j]? = X v->vcur[voff+j]? = X v) (h1v:∀v∈vs,v.oneCell'=true):
  Calls P (ρ.f 22) #[.slice (X ⟨b,off,n_⟩) n c,.int .i64 i,.slice (X ⟨vb,voff,n_⟩) 1 vc] w λe w'=>
   ∃G,n+1<=G/\e=.returned (.slice (X ⟨w.heap.size,0,n_⟩) (n+1) G)/\w'.os=w.os/\w'.tape=w.tape/\w'.output=w.output/\w'.heap.size=w.heap.size+1/\(∀k,k<w.heap.size->w'.heap[k]? = w.heap[k]?)/\
   ∃cur':Array Value,w'.heap[w.heap.size]? = X (.cells cur' E (0,0))/\cur'.size=G*z/\∀(j:Nat) v,(cs.take (i*z)++vs++cs.drop (i*z))[j]? = X v->cur'[j]? = X v:=by
 have t0:=L.t0;have t3:=L.t3;have t4:=L.t4;have t24:=L.t24;have u0:=run_underlying L.t0;have u3:=run_underlying L.t3;have u4:=run_underlying L.t4;have u24:=run_underlying L.t24;have zE:=L.zE;have mixed:=L.mixed;obtain⟨i0,hi0,hz0,hzs,hzb⟩:=info_parts L.iE;have hsz:(P.info? E).map (·.size)=X z:=by rw[hi0];simp[hzs]
 have hzp:=L.z0;have hsm:=L.small;have hin:(i+1)*z<=n*z:=Jr z hi;have hi1:(i+1)*z=i*z+z:=by rw[Je,OC]
 have hbw:b<w.heap.size:=(Cg.1 hg).1;have hvw:vb<w.heap.size:=(Cg.1 hvg).1;have hkk:(n:Int)+1-(i:Int)=((n+1-i:Nat):Int):=by omega
 have hik:i+(n+1-i)=n+1:=by omega
 have hbig:(n+1)*by_<=140737488355328:=by
  have:(n+1)*by_<=4294967296*32768:=Nat.mul_le_mul hn32 hsm;omega
 have htl:(cs.take (i*z)).length=i*z:=by rw[Kv,hcl];omega
 have hold:(Builtin.firstCells i0.size i (.slice (X ⟨b,off,n_⟩) i c)).run P w.drew=.ok (cs.take (i*z)).toArray w.drew:=by
  rw[hzs];exact run_firstCells_some w.drew z i ⟨b,off,n_⟩ i c (cs.take (i*z)) htl (λj v hj=>by
   rw[Addr.add_lit];rw[Kd]at hj;split at hj
   ·show(match w.heap[b]? with|some (.cells c _ _)=>c[off+j]? | _=>n_)=X v
    simp only[hg,hcs j v hj]
   cases hj)
 have hrz:∀ty,(Builtin.append_ #[(ρ.t 24),(ρ.t 3)] ty #[.slice (X ⟨b,off,n_⟩) i c,.int .i64 ((n:Int)+1-(i:Int))]).run P w =
   .ok (.slice (X ⟨w.heap.size,0,n_⟩) (n+1) (grownCap w (n+1) c E)) (w.drew.alloc (.cells ((cs.take (i*z)).toArray++Builtin.zeroCells zv.cells (n+1-i)++Builtin.zeroCells zv.cells (grownCap w (n+1) c E-(n+1))) E)):=λty=>by
  have h:=Lib.run_append_grow_zeros w (ρ.t 24) (ρ.t 3) ty E i0 _ .i64 .i64 L.t24 L.t3 hi0 hz0 (X ⟨b,off,n_⟩) i c (cs.take (i*z)) hold (n+1-i) (by omega) (by rw[hzs];omega) (by omega) (by omega)
   (by rw[hzb];have:(n+1-i)*by_<=(n+1)*by_:=Jr _ (by omega);omega) (by rw[hzb,hik];exact growslice_fits hroom hbig)
  rw[hik]at h;rw[hkk];exact h
 have hGn:n+1<=grownCap w (n+1) c E:=grownCap_ge w _ _ _;obtain⟨G,hG⟩:∃G,G=grownCap w (n+1) c E:=⟨_,rfl⟩;rw[<-hG]at hrz hGn;obtain⟨ROW,hROW⟩:∃ROW:Array Value,ROW=(cs.take (i*z)).toArray++Builtin.zeroCells zv.cells (n+1-i)++Builtin.zeroCells zv.cells (G-(n+1)):=⟨_,rfl⟩;rw[<-hROW]at hrz;have hRl:ROW.size=G*z:=by
  rw[hROW];simp only[Array.size_append,Qbi,htl,size_zeroCells,L.zc,<-Je];congr 1;omega
 have hRold:∀(j:Nat) v,(cs.take (i*z))[j]? = X v->ROW[j]? = X v:=λj v hj=>by
  have hjl:=(Xf.1 hj).1;rw[hROW,QlB (by simp;omega),QlB (by simpa using hjl)];simpa using hj
 have hGz:(n+1)*z<=G*z:=Jr z hGn;have hn1:(n+1)*z=n*z+z:=by rw[Je,OC]
 have hdl:(cs.drop (i*z)).length=(n-i)*z:=by rw[NF,hcl,Nat.sub_mul]
 have hni:n*z=i*z+(n-i)*z:=by rw[<-Je];congr 1;omega
 obtain⟨O,hrow1⟩:∃O:Array Value,O=(ROW.toList.take (i*z)++vs++ROW.toList.drop (i*z+vs.length)).toArray:=⟨_,rfl⟩;have hl1:i*z+vs.length<=ROW.toList.length:=by rw[hvl];simp[hRl];omega
 have hs1:O.size=G*z:=by rw[hrow1,<-hRl];simpa using MH ROW.toList _ _ hl1
 obtain⟨row2,hrow2⟩:∃row2:Array Value,row2=(O.toList.take (i*z+z)++cs.drop (i*z)++O.toList.drop (i*z+z+(cs.drop (i*z)).length)).toArray:=⟨_,rfl⟩;have hl2:i*z+z+(cs.drop (i*z)).length<=O.toList.length:=by rw[hdl];simp[hs1];omega
 have hs2:row2.size=G*z:=by rw[hrow2,<-hs1];simpa using MH O.toList _ _ hl2
 obtain⟨W1,hW1⟩:∃W1,W1=w.drew.alloc (.cells ROW E):=⟨_,rfl⟩;have hN:W1.heap[w.heap.size]? = X (.cells ROW E (0,0)):=by rw[hW1];exact heap_alloc_new w.drew _
 have hO:∀k,k<w.heap.size->W1.heap[k]? = w.heap[k]? := λk hk=>by rw[hW1];exact Below.heap_alloc w.drew _ k hk
 have hWs:W1.heap.size=w.heap.size+1:=by rw[hW1];simp
 rw[<-hW1]at hrz;have hcpA:∀(W:World),W.heap=W1.heap->∀ty dc,(Builtin.copy_ #[(ρ.t 24),(ρ.t 24)] ty #[.slice (X ⟨w.heap.size,i*z,n_⟩) (n+1-i) dc,.slice (X ⟨vb,voff,n_⟩) 1 vc]).run P W=.ok (goInt (1:Nat)) (W.setRow w.heap.size O):=λW hW ty dc=>by
  rw[hrow1];exact SE W _ _ ty E w.heap.size (i*z) (n+1-i) dc ⟨vb,voff,n_⟩ 1 vc z 1 ROW E vs L.t24 hsz (by rw[hW];exact hN) (by simp only[Nat.min_def];split<;>omega) (by rw[hvl,OC])
   (λj v hj=>by
    have:=hvs _ v hj;rw[Addr.add_lit];have hh:W.heap[vb]? = X (.cells vcur Ev (0,0)):=by rw[hW,hO _ hvw];exact hvg
    show(match W.heap[vb]? with|some (.cells c _ _)=>c[voff+j]? | _=>n_)=X v
    simp only[hh,this]) (by simpa using hl1) h1v
 have hcpB:∀(W:World),W.heap=(W1.setRow w.heap.size O).heap->∀ty dc sc,(Builtin.copy_ #[(ρ.t 24),(ρ.t 24)] ty #[.slice (X ⟨w.heap.size,i*z+z,n_⟩) (n-i) dc,.slice (X ⟨b,off+i*z,n_⟩) (n-i) sc]).run P W=.ok (goInt (n-i:Nat)) (W.setRow w.heap.size row2):=λW hW ty dc sc=>by
  rw[hrow2];exact SE W _ _ ty E w.heap.size (i*z+z) (n-i) dc ⟨b,off+i*z,n_⟩ (n-i) sc z (n-i) O E (cs.drop (i*z)) L.t24 hsz (by rw[hW];exact setRow_heap W1 _ ROW _ E _ hN) (Nat.min_self _) hdl
   (λj v hj=>by
    rw[UQ]at hj;have:=hcs _ v hj;rw[Addr.add_lit];have hh:W.heap[b]? = X (.cells cur Eb (0,0)):=by rw[hW,setRow_other W1 _ b _ (by omega),hO _ hbw];exact hg
    show(match W.heap[b]? with|some (.cells c _ _)=>c[off+i*z+j]? | _=>n_)=X v
    simp only[hh,OA,this]) (by simpa using hl2) (λv hv=>h1c v (QaX hv))
 have hfin:∀(j:Nat) v,(cs.take (i*z)++vs++cs.drop (i*z))[j]? = X v->row2[j]? = X v:=λj v hj=>by
  have e1:∀k:Nat,O.toList[k]? = if k<i*z then ROW.toList[k]? else if k<i*z+vs.length then vs[k-i*z]? else ROW.toList[k]? := λk=>by rw[hrow1,List.toList_toArray];exact Qbp _ _ _ hl1 k
  rw[hrow2,CS,Qbp _ _ _ hl2];by_cases h1:j<i*z
  ·rw[Kh,Jh (by omega)]at hj;rw[if_pos (by omega),e1,if_pos (by omega)];simpa using hRold j v hj
  by_cases h2:j<i*z+z
  ·rw[Jh (by rw[YZ];omega),Kc (by omega)]at hj;rw[if_pos (by omega),e1,if_neg h1,if_pos (by omega),<-hj];congr 1;omega
  rw[Kc (by rw[YZ];omega)]at hj;have hjl:=(Xf.1 hj).1;rw[YZ]at hjl;rw[if_neg (by omega),if_pos (by omega),<-hj];congr 1;rw[YZ];omega
 have hlast:∀W:World,W.heap=((W1.setRow w.heap.size O).setRow w.heap.size row2).heap->W.heap.size=w.heap.size+1/\(∀k,k<w.heap.size->W.heap[k]? = w.heap[k]?)/\
   ∃cur':Array Value,W.heap[w.heap.size]? = X (.cells cur' E (0,0))/\cur'.size=G*z/\∀(j:Nat) v,(cs.take (i*z)++vs++cs.drop (i*z))[j]? = X v->cur'[j]? = X v:=λW hW=>by
  refine⟨by rw[hW];simp[hWs],λk hk=>by rw[hW,setRow_other _ _ k _ (by omega),setRow_other _ _ k _ (by omega),hO k hk],row2,?_,hs2,hfin⟩;rw[hW];exact setRow_heap _ _ O _ E _ (setRow_heap W1 _ ROW _ E _ hN)
 have hWo:W1.os=w.os/\W1.tape=w.tape/\W1.output=w.output:=by rw[hW1];exact⟨rfl,rfl,rfl⟩
 have hz1:¬((1:Int)=0):=by omega
 have hz2:¬((i:Int)=(n:Int)):=by omega
 have hz3:(c:Int)<(n:Int)+1:=by omega
 have hw1:IntKind.i64.wrap ((i:Int)+1)=(i:Int)+1:=by rw[IntKind.wrap_i64];omega
 have hw2:IntKind.i64.wrap ((n:Int)+1)=(n:Int)+1:=by rw[IntKind.wrap_i64];omega
 have hw3:IntKind.i64.wrap ((n:Int)+1-(i:Int))=(n:Int)+1-(i:Int):=by rw[IntKind.wrap_i64];omega
 have hb0:(0:Int)<=(i:Int):=by omega
 have hb1:(0:Int)<=(i:Int)+1:=by omega
 have htn:((i:Int)+1).toNat=i+1:=by omega
 have hb3:(i:Int)<=(n:Int):=by omega
 have hb4:(i:Int)<=(c:Int):=by omega
 have hb5:(i:Int)<=(n:Int)+1:=by omega
 have hb6:(i:Int)+1<=(n:Int)+1:=by omega
 have hGi:¬(G=i):=by omega
 have hGim:¬(G=i+1):=by omega
 have hci:¬(c=i):=by omega
 clear hfin hs2 hl2 hrow2 hs1 hl1 hrow1 hO hN hWs hRold hRl hROW hG hold hkk hik hW1
 go_enter L.f22,Qht ρ n1
 go_wp2_with (first
  |(at_builtin;refine Lib.wpList_append_run _ rfl _ _ _ _ rfl _ _ rfl rfl _ _ (hrz _) ?_)
  |(refine wpList_copy_runI _ rfl _ _ (ρ.t 24) (ρ.t 24) rfl _ _ rfl rfl (hcpA _ (by rfl) _ _) ?_))
 go_region_law_o (refine step_copy_runI rfl _ _ (ρ.t 24) (ρ.t 24) rfl (.slice (X ⟨w.heap.size,i*z+z,n_⟩) (n-i) (G-(i+1))) (.slice (X ⟨b,off+i*z,n_⟩) (n-i) (c-i)) (by simp[Act.eval,Act.put]) (by simp[Act.eval,Act.put]) (hcpB _ (by rfl) _ _ _) ?_)
 go_wp2
 go_ret
 exact⟨G,hGn,rfl,hWo.1,hWo.2.1,hWo.2.2,hlast _ rfl⟩
set_option maxHeartbeats 4000000 in
set_option maxRecDepth 619 in
def QpT (L:Qi5 P ρ n1 n2 E z by_ zv)(base va:O_ Addr)(n c vc:Nat)(w:World)(O:Value)(w':World)
  (h:∀ty,(Builtin.append_ #[(ρ.t 24),(ρ.t 24)] ty #[.slice base n c,.slice va 1 vc]).run P w=.ok O w'):
  Calls P (ρ.f 22) #[.slice base n c,.int .i64 n,.slice va 1 vc] w λe w2=>e=.returned O/\w2=w':=by
 have t0:=L.t0;have t3:=L.t3;have t4:=L.t4;have t24:=L.t24;have u0:=run_underlying L.t0;have u3:=run_underlying L.t3;have u4:=run_underlying L.t4;have u24:=run_underlying L.t24;have zE:=L.zE;have mixed:=L.mixed;have hz1:¬((1:Int)=0):=by omega
 have hb0:(0:Int)<=(n:Int):=by omega
 go_enter L.f22,Qht ρ n1
 go_wp2_with (at_builtin;refine Lib.wpList_append_run _ rfl _ _ _ _ rfl _ _ rfl rfl _ _ (h _) ?_)
 all_goals
  go_ret
  exact⟨rfl,rfl⟩
def Ui (I:Nat->Prop)(w:World)(z:Nat)(l:L_ Value)(rs:L_ (L_ V)):Prop:=l.length=rs.length*z/\(∀r∈rs,Bv z r)/\(∀u∈l,u.oneCell'=true)/\∀(i:Nat) r,rs[i]? = X r->∀(j:Nat) v,r[j]? = X v->∃u,l[i*z+j]? = X u/\XG I w u v
def Ui.append {I:Nat->Prop}{w:World}{l m:L_ Value}{rs us:L_ (L_ V)}(h:Ui I w z l rs)(k:Ui I w z m us):Ui I w z (l++m) (rs++us):=by
 obtain⟨O,h2,h3,h4⟩:=h;obtain⟨k1,k2,k3,k4⟩:=k;obtain⟨g1,g2⟩:=Qa1 (rest:=[]) (n:=rs.length) rfl O h2 k2 k1 h4 k4;refine⟨by rw[YZ,YZ,O,k1,Je],g1,λu hu=>(YT.1 hu).elim (h3 u) (k3 u),by simpa using g2⟩
def Ui.take {I:Nat->Prop}{w:World}{l:L_ Value}{rs:L_ (L_ V)}(h:Ui I w z l rs){i:Nat}(hi:i<=rs.length):Ui I w z (l.take (i*z)) (rs.take i):=by
 obtain⟨h1,h2,h3,h4⟩:=h;have hle:i*z<=rs.length*z:=Jr z hi;refine⟨by rw[Kv,Kv,h1,OB hle,OB hi],λr hr=>h2 r (FQ hr),λu hu=>h3 u (FQ hu),λk r O j v hj=>?_⟩;rw[Kd]at O;split at O
 ·rename_i hki;obtain⟨u,hu,hD⟩:=h4 k r O j v hj;have hjz:j<z:=by have:=(Xf.1 hj).1;rwa[(h2 r (XB O)).1]at this
  have:(k+1)*z<=i*z:=Jr z hki;rw[Je]at this;exact⟨u,by rw[Kd,if_pos (by omega)];exact hu,hD⟩
 cases O
def Ui.drop {I:Nat->Prop}{w:World}{l:L_ Value}{rs:L_ (L_ V)}(h:Ui I w z l rs){i:Nat}(hi:i<=rs.length):Ui I w z (l.drop (i*z)) (rs.drop i):=by
 obtain⟨h1,h2,h3,h4⟩:=h;refine⟨by rw[NF,NF,h1,Nat.sub_mul],λr hr=>h2 r (QaX hr),λu O=>h3 u (QaX O),λk r hk j v hj=>?_⟩;rw[UQ]at hk;obtain⟨u,O,hD⟩:=h4 _ r hk j v hj;exact⟨u,by rw[UQ,<-O];congr 1;rw[Je];omega,hD⟩
def Ui.mono {I I':Nat->Prop}{w w':World}(O:∀k,I k->I' k/\w'.heap[k]? = w.heap[k]?){l:L_ Value}{rs:L_ (L_ V)}(h:Ui I w z l rs):Ui I' w' z l rs:=
 ⟨h.1,h.2.1,h.2.2.1,λi r hi j v hj=>let ⟨u,hu,hD⟩:=h.2.2.2 i r hi j v hj;⟨u,hu,hD.mono O⟩⟩
def YW.flat {I:Nat->Prop}{w:World}{B:Xh}{rs:L_ (L_ V)}(hz0:0<z)(h:YW I w B z rs):B.z=z/\rs.length<=B.cap/\∃cs E l,w.heap[B.b]? = X (.cells cs E (0,0))/\B.off+B.cap*z<=cs.size/\Ui I w z l rs/\
  ∀(j:Nat) v,l[j]? = X v->cs[B.off+j]? = X v:=by
 obtain⟨h1,h2,h3,cs,E,h4,h5,h6⟩:=h;have hle:rs.length*z<=B.cap*z:=Jr z h2;have hl:∀(j:Nat),j<rs.length*z->((cs.toList.drop B.off).take (rs.length*z))[j]? = cs[B.off+j]? := λj hj=>by rw[Kd,if_pos hj,UQ];simp
 have O:((cs.toList.drop B.off).take (rs.length*z)).length=rs.length*z:=by simp;omega
 refine⟨h1,h2,cs,E,(cs.toList.drop B.off).take (rs.length*z),h4,h5,⟨O,h3,λu hu=>?_,λi r hi j v hj=>?_⟩,λj v hj=>?_⟩
 ·obtain⟨k,hk⟩:=NH.1 hu;have hkl:=(Xf.1 hk).1;rw[O]at hkl;rw[hl k hkl]at hk;have hi:k / z<rs.length:=(Nat.div_lt_iff_lt_mul hz0).2 hkl;have hrow:=h3 rs[k / z] (Xc _);have hjz:k % z<(rs[k / z]).length:=by rw[hrow.1];exact Nat.mod_lt _ hz0
  obtain⟨x,hx,hD⟩:=h6 (k / z) _ (Qv hi) (k % z) _ (Qv hjz);rw[show k / z*z+k % z=k by rw[Nat.mul_comm];exact Nat.div_add_mod k z,hk]at hx;cases hx;exact((QW.dat (Z:=λ_=>n_) hD).oneCell (hrow.2 _ (Xc _))).2
 ·have hil:=(Xf.1 hi).1;have hjz:j<z:=by have:=(Xf.1 hj).1;rwa[(h3 r (XB hi)).1]at this
  have:(i+1)*z<=rs.length*z:=Jr z hil;rw[Je]at this;rw[hl _ (by omega)];exact h6 i r hi j v hj
 have hjl:=(Xf.1 hj).1;rw[O]at hjl;rw[<-hl j hjl];exact hj
def QxL {S:Nat->Prop}{Z:Nat->O_ Xh}{w w':World}{vals:Array Value}{args:L_ V}{rs us rs':L_ (L_ V)}{B':Xh}{l:L_ Value}{O:Array Value}{E':TypeId}(hi:Ins S Z w vals args [(619,.arr z rs),(620,.arr z us)])
  (ho:w'.os=w.os) (ht:w'.tape=w.tape) (hu:w'.output=w.output) (hs:w.heap.size<=w'.heap.size) (hm:B'.more=[]) (hBz:B'.z=z) (hlt:B'.b<w'.heap.size) (hk:∀k,k<w.heap.size->k≠B'.b->w'.heap[k]? = w.heap[k]?)
  (hold:B'.b<w.heap.size->∃B,Z 619=X B/\B.has B'.b) (hl:Ui S w z l rs') (hg:w'.heap[B'.b]? = X (.cells O E' (0,0))) (hsz:B'.off+B'.cap*z<=O.size) (hcap:rs'.length<=B'.cap)
  (hc:∀(j:Nat) v,l[j]? = X v->O[B'.off+j]? = X v):
  Outs S Z w (λo=>if o=619 then X B' else n_) w' (.slice (X ⟨B'.b,B'.off,n_⟩) rs'.length B'.cap) (.own 619 rs'.length) [(619,.arr z rs')]:=by
 have hB:∀k,B'.has k↔k=B'.b:=λk=>by simp[Xh.has,hm]
 have hφ:∀o B,(if o=619 then X B' else n_)=X B->o=619/\B=B':=λo B h=>by
  split at h
  ·rename_i e;cases h;exact⟨e,rfl⟩
  cases h
 have hS:∀k,S k->k<w.heap.size/\k≠B'.b:=λk hk'=>⟨hi.lt k hk',λe=>by
  obtain⟨B,h1,h2⟩:=hold (e▸hi.lt k hk');exact((hi.dom _ B h1).2.1 _ h2).2 (e▸hk')⟩
 have hA:∀k,S k->Aft S (λo=>if o=619 then X B' else n_) w w' k/\w'.heap[k]? = w.heap[k]? := λk hk'=>by
  obtain⟨h1,h2⟩:=hS k hk';refine⟨⟨Ez h1 hs,λ_=>hk',λo B h e=>?_⟩,hk k h1 h2⟩;obtain⟨_,rfl⟩:=hφ o B h;exact h2 ((hB k).1 e)
 refine⟨ho,ht,hu,hs,λk h1 h2=>hk k h1 λe=>?_,λo o' B1 B2 k h1 h2 _ _=>?_,λo B h=>?_,λo B k h h2=>?_,λo B k h h2 h3=>?_,⟨λo B h1 h=>?_,λo ob B h1 h2 h3=>?_⟩,.own 619 _ B' (by simp) hcap,λo ob h=>?_⟩
 ·obtain⟨B,h3,h4⟩:=hold (e▸h1);exact h2 _ B h3 (e▸h4)
 ·rw[(hφ o B1 h1).1,(hφ o' B2 h2).1]
 ·rw[(hφ o B h).1];exact⟨_,QD _ _ _⟩
 ·obtain⟨_,rfl⟩:=hφ o B h;rw[(hB k).1 h2];exact⟨hlt,λh3=>let ⟨B,h4,h5⟩:=hold h3;⟨_,B,h4,h5⟩⟩
 ·have:=(hφ o B h).1;omega
 ·have:=(hφ o B h).1;omega
 ·by_cases e:619=o
  ·omega
  rw[QA _ _ e]at h2;cases h2
 by_cases e:619=o
 ·subst e;rw[QD]at h;cases h;refine .inl ⟨B',by simp,hBz,hcap,hl.2.1,O,E',hg,hsz,λi r hi j v hj=>?_⟩;obtain⟨u,hu,hD⟩:=hl.2.2.2 i r hi j v hj;exact⟨u,hc _ u hu,hD.mono hA⟩
 rw[QA _ _ e]at h;cases h
def QsK (L:Qi5 P ρ n1 n2 E z by_ zv)(rs:L_ (L_ V))(u:L_ V)(i:Int)(h0:0<=i)(hi:i.toNat<=rs.length)(hn:rs.length+1<=4294967296):
  QX P (ρ.f 22) [.own 619 rs.length,.i .i64 i,.own 620 1] [(619,.arr z rs),(620,.arr z [u])] (Gives (.own 619 (rs.take i.toNat++u::rs.drop i.toNat).length) [(619,.arr z (rs.take i.toNat++u::rs.drop i.toNat))]):=by
 intro S Z w vals hin _;obtain⟨m,rfl⟩:∃m:Nat,i=m:=⟨i.toNat,by omega⟩;rw[XM]at hi ⊢;have hs:=hin.size;obtain⟨v0,v1,v2,hv⟩:∃v0 v1 v2,vals=#[v0,v1,v2]:=by
  obtain⟨l⟩:=vals
  match l,hs with|[x,y,z],_=>exact⟨x,y,z,rfl⟩
 subst hv;have a0:=hin.args 0 v0 _ rfl rfl;have a1:=(hin.args 1 v1 _ rfl rfl).i_inv;have a2:=hin.args 2 v2 _ rfl rfl;subst a1;have hlen:(rs.take m++u::rs.drop m).length=rs.length+1:=by simp;omega
 have happ:rs.take m++u::rs.drop m=rs.take m++[u]++rs.drop m:=by simp
 obtain⟨i0,hi0,hz0,hzs,hzb⟩:=info_parts L.iE;have hsm:=L.small;have hbig:(rs.length+1)*by_<=140737488355328:=by
  have:(rs.length+1)*by_<=4294967296*32768:=Nat.mul_le_mul hn hsm;omega
 rcases a2.own_inv with⟨_,h⟩|⟨O,hB2,hc2,rfl⟩
 ·omega
 have hob2:YW S w O z [u]:=by
  rcases hin.heap 620 (.arr z [u]) (by rw[QA _ _ (by omega)];exact QD _ _ _)with⟨B',hB',hr⟩|⟨hn',_⟩
  ·rw[hB2]at hB';cases hB';exact hr
  rw[hB2]at hn';cases hn'
 obtain⟨_,_,vcur,Ev,vs,hvg,_,hvr,hvc⟩:=YW.flat L.z0 hob2;have hvl:vs.length=z:=by have:=hvr.1;simpa using this
 have hvs:∀(j:Nat) v,vs[j]? = X v->w.cell? ((⟨O.b,O.off,n_⟩:Addr).add j)=X v:=λj v hj=>by
  rw[Addr.add_lit];show(match w.heap[O.b]? with|some (.cells c _ _)=>c[O.off+j]? | _=>n_)=X v
  simp only[hvg,hvc j v hj]
 have fin:∀{B':Xh} {w':World} {l:L_ Value} {cur':Array Value} {E':TypeId},w'.os=w.os->w'.tape=w.tape->w'.output=w.output->w.heap.size<=w'.heap.size->B'.more=[]->B'.z=z->B'.b<w'.heap.size->(∀k,k<w.heap.size->k≠B'.b->w'.heap[k]? = w.heap[k]?)->
   (B'.b<w.heap.size->∃B,Z 619=X B/\B.has B'.b)->Ui S w z l (rs.take m++u::rs.drop m)->w'.heap[B'.b]? = X (.cells cur' E' (0,0))->B'.off+B'.cap*z<=cur'.size->rs.length+1<=B'.cap->(∀(j:Nat) v,l[j]? = X v->cur'[B'.off+j]? = X v)->
   ∃x v hs' φ',Ending.returned (.slice (X ⟨B'.b,B'.off,n_⟩) (rs.length+1) B'.cap)=Ending.returned x/\Gives (.own 619 (rs.take m++u::rs.drop m).length) [(619,.arr z (rs.take m++u::rs.drop m))] v hs'/\Outs S Z w φ' w' x v hs':=by
  intro B' w' l cur' E' g1 g2 g3 g4 g5 g6 g7 g8 g9 g10 g11 g12 g13 g14;have:=QxL (rs':=rs.take m++u::rs.drop m) hin g1 g2 g3 g4 g5 g6 g7 g8 g9 g10 g11 g12 (by rw[hlen];exact g13) g14;exact⟨_,_,_,_,rfl,⟨rfl,λc ob h=>h⟩,by rw[hlen]at this ⊢;exact this⟩
 have mid:∀{l:L_ Value},Ui S w z l rs->Ui S w z (l.take (m*z)++vs++l.drop (m*z)) (rs.take m++u::rs.drop m):=λh=>by
  rw[happ];exact((h.take hi).append hvr).append (h.drop hi)
 rcases a0.own_inv with⟨rfl,h0⟩|⟨B,hB,hcap,rfl⟩
 ·
  have:rs=[]:=QnG h0;subst this;have hm0:m=0:=by simpa using hi
  subst hm0;have hrun:=λty=>run_append_nil (P:=P) w (ρ.t 24) ty E i0 zv L.t24 hi0 hz0 ⟨O.b,O.off,n_⟩ 1 O.cap vs (by rw[hvl,hzs,OC]) hvs (by omega) (by omega) (by rw[hzb];omega);refine(QpT L n_ (X ⟨O.b,O.off,n_⟩) 0 0 O.cap w _ _ hrun).mono ?_;rintro e w' ⟨rfl,rfl⟩;have hge:=grownCap_ge w 1 0 E;refine fin (B':=⟨w.heap.size,grownCap w 1 0 E,z,[],0⟩) (l:=vs) rfl rfl rfl (by simp) rfl rfl (by simp) (λk hk _=>Below.heap_alloc w.drew _ k hk) (λh=>by simp at h) (by simpa using hvr) (heap_alloc_new w.drew _) ?_ hge (λj v hj=>?_)
  ·simp only[Array.size_append,Qbi,hvl,size_zeroCells,L.zc,Gp];have:z+(grownCap w 1 0 E-1)*z=grownCap w 1 0 E*z:=by
    have h1:grownCap w 1 0 E=1+(grownCap w 1 0 E-1):=by omega
    calc z+(grownCap w 1 0 E-1)*z=(1+(grownCap w 1 0 E-1))*z:=by rw[Je,OC]
     _=_:=by rw[<-h1]
   omega
  have:=(Xf.1 hj).1;rw[Gp,QlB (by simpa using this)];simpa using hj
 have hob:YW S w B z rs:=by
  rcases hin.heap 619 _ (QD _ _ _)with⟨B',hB',hr⟩|⟨hn',_⟩
  ·rw[hB]at hB';cases hB';exact hr
  rw[hB]at hn';cases hn'
 obtain⟨hBz,_,cur,Eb,cs,hg,hfit,hr,hc⟩:=YW.flat L.z0 hob;have hlt:B.b<w.heap.size:=((hin.dom _ _ hB).2.1 _ B.self).1;have hne:O.b≠B.b:=λe=>by
  have:=hin.inj _ _ _ _ B.b hB hB2 B.self (e▸O.self);omega
 have hcells:∀(j:Nat) v,cs[j]? = X v->w.cell? ((⟨B.b,B.off,n_⟩:Addr).add j)=X v:=λj v hj=>by
  rw[Addr.add_lit];show(match w.heap[B.b]? with|some (.cells c _ _)=>c[B.off+j]? | _=>n_)=X v
  simp only[hg,hc j v hj]
 let B':Xh:=⟨B.b,B.cap,z,[],B.off⟩;have hold:∀k,k=B.b->∃B,Z 619=X B/\B.has k:=λk e=>⟨B,hB,e▸B.self⟩;by_cases hend:m=rs.length
 ·subst hend;by_cases hroom:rs.length+1<=B.cap
  ·have hfit':B.off+rs.length*i0.size+vs.length<=cur.size:=by
    rw[hzs,hvl];have:(rs.length+1)*z<=B.cap*z:=Jr z hroom;rw[Je]at this;omega
   have hrun:=λty=>QeH (P:=P) (T:=ρ.t 24) (ty:=ty) L.t24 hi0 B.b B.off rs.length B.cap cur hg ⟨O.b,O.off,n_⟩ 1 O.cap vs (by rw[hvl,hzs,OC]) hvs hvr.2.2.1 hroom hfit';refine(QpT L (X ⟨B.b,B.off,n_⟩) (X ⟨O.b,O.off,n_⟩) rs.length B.cap O.cap w _ _ hrun).mono ?_;rintro e w' ⟨rfl,rfl⟩;have hl1:B.off+rs.length*z+vs.length<=cur.toList.length:=by rw[<-hzs];simpa using hfit'
   refine fin (B':=B') (l:=cs.take (rs.length*z)++vs++cs.drop (rs.length*z)) rfl rfl rfl (by simp) rfl rfl (by simpa using hlt) (λk _ hk=>setRow_other w B.b k _ hk) (λ_=>hold _ rfl) (mid hr) (setRow_heap w B.b cur _ Eb _ hg) ?_ hroom (λj v hj=>?_)
   ·rw[hzs,Qbi,MH _ _ _ hl1];simpa using hfit
   rw[hzs,CS,Qbp _ _ _ hl1];have h1:cs.drop (rs.length*z)=[]:=List.drop_eq_nil_of_le (by rw[hr.1];exact Yk _);rw[h1,Qcr,YV (by rw[hr.1];exact Yk _)]at hj;have hBo:B'.off=B.off:=rfl;by_cases hj1:j<cs.length
   ·rw[Jh hj1]at hj;rw[if_pos (by rw[hr.1]at hj1;omega)];simpa using hc j v hj
   rw[Kc (by omega)]at hj;have:=(Xf.1 hj).1;rw[hr.1]at hj hj1 this;rw[if_neg (by omega),if_pos (by omega),<-hj];congr 1;omega
  have hrun:=λty=>run_append_grow (P:=P) w (ρ.t 24) ty E i0 zv L.t24 hi0 hz0 ⟨B.b,B.off,n_⟩ rs.length B.cap cs (by rw[hzs];exact hr.1) hcells ⟨O.b,O.off,n_⟩ 1 O.cap vs (by rw[hvl,hzs,OC]) hvs (by omega) (by omega) (by rw[hzb];exact growslice_fits (by omega) hbig);refine(QpT L (X ⟨B.b,B.off,n_⟩) (X ⟨O.b,O.off,n_⟩) rs.length B.cap O.cap w _ _ hrun).mono ?_;rintro e w' ⟨rfl,rfl⟩;have hge:=grownCap_ge w (rs.length+1) B.cap E;refine fin (B':=⟨w.heap.size,grownCap w (rs.length+1) B.cap E,z,[],0⟩) (l:=cs.take (rs.length*z)++vs++cs.drop (rs.length*z)) rfl rfl rfl (by simp) rfl rfl (by simp) (λk hk _=>Below.heap_alloc w.drew _ k hk) (λh=>by simp at h) (mid hr) (heap_alloc_new w.drew _) ?_ hge (λj v hj=>?_)
  ·simp only[Array.size_append,Qbi,hvl,hr.1,size_zeroCells,L.zc,Gp];have:rs.length*z+z+(grownCap w (rs.length+1) B.cap E-(rs.length+1))*z=grownCap w (rs.length+1) B.cap E*z:=by
    calc rs.length*z+z+(grownCap w (rs.length+1) B.cap E-(rs.length+1))*z=(rs.length+1+(grownCap w (rs.length+1) B.cap E-(rs.length+1)))*z:=by rw[Je,Je,OC]
     _=_:=by congr 1;omega
   omega
  have h1:cs.drop (rs.length*z)=[]:=List.drop_eq_nil_of_le (by rw[hr.1];exact Yk _);rw[h1,Qcr,YV (by rw[hr.1];exact Yk _)]at hj;have hjl:=(Xf.1 hj).1;rw[Gp,QlB (by simpa using hjl),List.append_toArray,CS];exact hj
 by_cases hroom:rs.length+1<=B.cap
 ·refine(Qwb L B.b B.off rs.length B.cap m O.b O.off O.cap cur vcur Eb Ev cs vs w (by omega) hroom hn hg hfit hr.1 hc hr.2.2.1 hvl hvg hvc hne hvr.2.2.1).mono ?_;rintro e w' ⟨rfl,g1,g2,g3,g4,g5,cur',g6,g7,g8⟩;exact fin (B':=B') g1 g2 g3 (by omega) rfl rfl (by rw[g4];exact hlt) (λk _ hk=>g5 k hk) (λ_=>hold _ rfl) (mid hr) g6 (by rw[g7];exact hfit) hroom g8
 refine(QxK L B.b B.off rs.length B.cap m O.b O.off O.cap cur vcur Eb Ev cs vs w (by omega) hcap (by omega) hn hg hr.1 hc hr.2.2.1 hvl hvg hvc hvr.2.2.1).mono ?_;rintro e w' ⟨G,hG,rfl,g1,g2,g3,g4,g5,cur',g6,g7,g8⟩;exact fin (B':=⟨w.heap.size,G,z,[],0⟩) g1 g2 g3 (by omega) rfl rfl (by show w.heap.size<_;omega) (λk hk _=>g5 k hk) (λh=>absurd h (Nat.lt_irrefl _)) (mid hr) g6 (by rw[g7,Gp];exact Yk _) hG (λj v hj=>by rw[Gp];exact g8 j v hj)
section
variable {C:XC}{Y:St}{o:Oper}
end
section
variable {P:Program}{C:XC}{Y:St}{o:Oper}
def Qf.appSB {T U d e e' z z' by_ by' b n m:Nat}{x y:Operand}{rs us rs':L_ (L_ V)}{zs:L_ V}(ho:o.op=.call { callee:=.builtin .append,args:=#[x,y],argTypes:=#[T,U] })
  (hd:o.dst=X d) (hn:B_ d C) (hx:Y.opd x=X (.own b n)) (hb:look Y.hp b=X (.arr z rs)) (hb1:Nat.ble 621 b=false) (hnl:rs.length=n)
  (hT:YD P T=X (e,z,by_)) (hU:YD P U=X (e',z',by')) (hz:XY P e=X zs) (hzl:zs.length=z) (hz0:z≠0) (O:1<=by_) (h:decide ((n+us.length)*by_<=140737488355328)=true)
  (hy:Y.opd y=X (.sl z us)) (he:rs++us=rs') (hm:n+us.length=m):Qf P C o Y (Y.app b z d m rs'):=
 Qf.appendB ho hd hn hx hb hb1 hnl hT hU hz hzl hz0 (Yq (Nat.le_mul_of_pos_right _ O) (Xe h)) (Xe h) (λZ a w hr=>(hr.opd hy).source_sl) he hm
def Qgn {α β:Type}{us:L_ α}{y:L_ β}{n b L:Nat}(h:decide ((n+y.length)*b<=L)=true)(e:us.length=y.length):decide ((n+us.length)*b<=L)=true:=by rw[e];exact h
end
def QyX (t:TypeId){a:Array TypeId}{b:Array TypeId}{c:Bool}(fn:Fn)(xs ys:Array Value)(w:World){P:Program}(h:P.underlying t=X (.func a b c)):(Op.equal t (.func fn xs ys) .nilFunc).run P w=.ok false w:=by
 show(Op.equalIn (9999+1) t (.func fn xs ys) .nilFunc).run P w=_;rw[Op.equalIn];simp only[Xl,run_underlying h,Xo,Xx]<;>rfl
def QxM (t:TypeId){a:Array TypeId}{b:Array TypeId}{c:Bool}(w:World){P:Program}(h:P.underlying t=X (.func a b c)):(Op.equal t .nilFunc .nilFunc).run P w=.ok true w:=by
 show(Op.equalIn (9999+1) t .nilFunc .nilFunc).run P w=_;rw[Op.equalIn];simp only[Xl,run_underlying h,Xo,Xx]<;>rfl
def QnW (P:Program)(T:TypeId):Bool:=match P.underlying T with|some (.func _ _ _)=>true|_=>false
def QsL {P:Program}{T:TypeId}(h:QnW P T=true):∃a b c,P.underlying T=X (.func a b c):=by
 unfold QnW at h;split at h
 ·rename_i a b c e;exact⟨a,b,c,e⟩
 cases h
section
variable {P:Program}{C:XC}{o:Oper}{Y:St}
def Qf.eqFn {T U d:Nat}{x y:Operand}{fn:Fn}{vs us:L_ V}(ho:o.op=.binOp .eql T x y U)(hd:o.dst=X d)(hn:B_ d C)(hx:Y.opd x=X (.clo fn vs us))(hy:Y.opd y=X (.lit .nilFunc))(h:QnW P T=true):Qf P C o Y (Y.put d (.b false)):=by
 obtain⟨_,_,_,h⟩:=QsL h;refine Qf.same hd hn λZ a w hr=>?_;obtain⟨xs,ys,O,_⟩:=(hr.opd hx).clo_inv;have hyv:=(hr.opd hy).lit_inv;refine⟨.bool false,?_,.dat (.b _)⟩;simp only[execOp,ho,O,hyv];simp[eqGuard,binOp,QyX _ _ _ _ w h]
def Qf.eqFn0 {T U d:Nat}{x y:Operand}(ho:o.op=.binOp .eql T x y U)(hd:o.dst=X d)(hn:B_ d C)(hx:Y.opd x=X (.lit .nilFunc))(hy:Y.opd y=X (.lit .nilFunc))(h:QnW P T=true):Qf P C o Y (Y.put d (.b true)):=by
 obtain⟨_,_,_,h⟩:=QsL h;refine Qf.same hd hn λZ a w hr=>?_;have O:=(hr.opd hx).lit_inv;have hyv:=(hr.opd hy).lit_inv;refine⟨.bool true,?_,.dat (.b _)⟩;simp only[execOp,ho,O,hyv];simp[eqGuard,binOp,QxM _ w h]
end
noncomputable abbrev V.Y:V:=.lit (.slice n_ 0 0)
end Go.Vm
