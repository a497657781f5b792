/- A part of the proof; what it holds is told at each theorem. -/
import Derived.Test.YtphohlpbjofddaaGreatDoorO4V2
import Derived.Laws.StructEq
import Derived.Laws.Cover3
import Derived.RangeFuncIn
import Derived.Shelf.Sort.Plain
import Derived.Shelf.Slices.In.SortNone
import Derived.Laws.BytesString
import Derived.Shelf.Slices.CompactI
import Derived.Shelf.Strings.Fields
import Derived.Carry
import Derived.ReadAgain
import Derived.OpenShut
import GoSem.ClaimJoined
import Derived.Lib.LaidTab
import Derived.LaidMore
import Derived.MakeChecks
import Derived.Stop.LaidErr
import Derived.Stop.Joined
import Derived.SizedLaws
import Derived.Handed
import Derived.Shelf.Spec.SlicesInsertGrow
set_option linter.all false
namespace Go.Vm
open Go Go.RowKit
section
variable {P:Program}{C:Xq}{σ:St}{o:Oper}
def Qch (P:Program)(T:TypeId)(k:IntKind):Bool:=match P.underlying T with
 | some (.int q)=>ikB q k
 | _=>false
def QaK {T:TypeId}{k:IntKind}(h:Qch P T k=true):P.underlying T=some (.int k):=by
 unfold Qch at h
 split at h
 ·rename_i q j;rw[j,QjR h]
 cases h
def Ql.convI {S T d:Nat}{x:Operand}{k h:IntKind}{n:Int}(ho:o.op=.convert S T x)(D:o.dst=some d)(hn:Nat.ble (d+1) C.n=true)(hx:σ.opd x=some (.i h n))(hs:Qch P S h=true)(j:Qch P T k=true):Ql P C o σ (σ.put d (.i k (k.wrap n))):=by
 refine Ql.same D hn λφ a w hr=>⟨.int k (k.wrap n),?_,.dat (.i _ _)⟩
 simp[execOp,ho,(hr.opd hx).i_inv,convert,run_underlying (QaK hs),run_underlying (QaK j),Conv.intToInt]
def QlQ (k:IntKind)(m n:Int):Int:=k.wrap (m*2 ^ (min n.toNat k.bits))
def YW (k:IntKind)(m n:Int):Int:=m.fdiv (2 ^ (min n.toNat k.bits))
def Ql.shl {x y:Operand}{T U d:Nat}{k k':IntKind}{m n:Int}(ho:o.op=.binOp .shl T x y U)(j:o.dst=some d)(D:Nat.ble (d+1) C.n=true)(hx:σ.opd x=some (.i k m))(hy:σ.opd y=some (.i k' n))(h0:0<=n):Ql P C o σ (σ.put d (.i k (QlQ k m n))):=by
 refine Ql.same j D λφ a w h=>⟨.int k _,?_,.dat (.i _ _)⟩
 have:¬n<0:=by omega
 simp[execOp,ho,(h.opd hx).i_inv,(h.opd hy).i_inv,eqGuard,binOp,Op.shift,this,QlQ]
def Ql.shr {x y:Operand}{T U d:Nat}{k k':IntKind}{m n:Int}(ho:o.op=.binOp .shr T x y U)(j:o.dst=some d)(D:Nat.ble (d+1) C.n=true)(hx:σ.opd x=some (.i k m))(hy:σ.opd y=some (.i k' n))(h0:0<=n):Ql P C o σ (σ.put d (.i k (YW k m n))):=by
 refine Ql.same j D λφ a w h=>⟨.int k _,?_,.dat (.i _ _)⟩
 have:¬n<0:=by omega
 simp[execOp,ho,(h.opd hx).i_inv,(h.opd hy).i_inv,eqGuard,binOp,Op.shift,this,YW]
def Dh (k:IntKind)(m n:Int):Int:=k.wrap ((BitVec.ofInt k.bits m &&& BitVec.ofInt k.bits n).toNat:Int)
def Ql.andB {x y:Operand}{T U d:Nat}{k:IntKind}{m n:Int}(ho:o.op=.binOp .and T x y U)(j:o.dst=some d)(D:Nat.ble (d+1) C.n=true)(hx:σ.opd x=some (.i k m))(hy:σ.opd y=some (.i k n)):Ql P C o σ (σ.put d (.i k (Dh k m n))):=
 Ql.same j D λφ a w h=>⟨.int k _,by simp[execOp,ho,(h.opd hx).i_inv,(h.opd hy).i_inv,eqGuard,binOp,Op.intBits,Dh],.dat (.i _ _)⟩
def BG : L_ V->O_ (L_ Value)
 | []=>some []
 | .i k n::r=>(BG r).map (.int k n::·)
 | .b x::r=>(BG r).map (.bool x::·)
 | .s x::r=>(BG r).map (.string x::·)
 | _=>none
def QmL {φ:Nat->O_ QU}{I:Nat->Prop}{w:World}:∀{D:L_ V} {vs xs:L_ Value},BG D=some vs->xs.length=D.length->(∀(j:Nat) x v,xs[j]? = some x->D[j]? = some v->QQ φ I w x v)->xs=vs:=by
 intro D
 induction D with
 | nil=>intro vs xs h hl _;cases h;exact Qjy hl
 | cons c D ih=>
  intro vs xs h hl hr
  cases xs with
  | nil=>cases hl
  | cons x xs=>
   have h0:=hr 0 x c rfl rfl
   have hi:∀{us:L_ Value},BG D=some us->xs=us:=λe=>ih e (by simpa using hl) λj x v a b=>hr (j+1) x v a b
   cases c with
   | i k n=>simp only[BG,XT]at h;obtain⟨us,e,rfl⟩:=h;rw[h0.i_inv,hi e]
   | b k=>simp only[BG,XT]at h;obtain⟨us,e,rfl⟩:=h;rw[h0.b_inv,hi e]
   | s k=>simp only[BG,XT]at h;obtain⟨us,e,rfl⟩:=h;rw[h0.s_inv,hi e]
   | _=>cases h
def QQ.aggVals {φ:Nat->O_ QU}{I:Nat->Prop}{w:World}{x:Value}{D:L_ V}{vs:L_ Value}(h:QQ φ I w x (.agg D))(hv:BG D=some vs):x=.agg vs.toArray:=by
 obtain⟨xs,rfl,hs,hr⟩:=h.agg_inv
 have:=QmL (xs:=xs.toList) hv (by simpa using hs) λj x v a b=>hr j x v (by simpa using a) b
 rw[<-this]
def EqT (P:Program)(T:TypeId)(vs us:L_ Value)(r:Bool):Prop:=P.eqGuardType P.depth T=false/\∀w,(Op.equalIn 10000 T (.agg vs.toArray) (.agg us.toArray)).run P w=.ok r w
def Ql.eqAgg {x y:Operand}{T U d:Nat}{j D:L_ V}{vs us:L_ Value}{r:Bool}(ho:o.op=.binOp .eql T x y U)(hd:o.dst=some d)(hn:Nat.ble (d+1) C.n=true)(hx:σ.opd x=some (.agg j))(hy:σ.opd y=some (.agg D))(hv:BG j=some vs)(hu:BG D=some us)(h:EqT P T vs us r):
  Ql P C o σ (σ.put d (.b r)):=by
 refine Ql.same hd hn λφ a w hr=>⟨.bool r,?_,.dat (.b _)⟩
 have h1:=(hr.opd hx).aggVals hv
 have h2:=(hr.opd hy).aggVals hu
 have h3:=h.2 w
 simp only[execOp,ho,h1,h2,eqGuard,Xc,run_program,Xm,h.1]
 simp[binOp,Op.equal,Op.maxDepth,h3,h.1]
def Ql.neAgg {x y:Operand}{T U d:Nat}{j D:L_ V}{vs us:L_ Value}{r:Bool}(ho:o.op=.binOp .neq T x y U)(hd:o.dst=some d)(hn:Nat.ble (d+1) C.n=true)(hx:σ.opd x=some (.agg j))(hy:σ.opd y=some (.agg D))(hv:BG j=some vs)(hu:BG D=some us)(h:EqT P T vs us r):
  Ql P C o σ (σ.put d (.b (!r))):=by
 refine Ql.same hd hn λφ a w hr=>⟨.bool (!r),?_,.dat (.b _)⟩
 have h1:=(hr.opd hx).aggVals hv
 have h2:=(hr.opd hy).aggVals hu
 have h3:=h.2 w
 simp only[execOp,ho,h1,h2,eqGuard,Xc,run_program,Xm,h.1]
 simp[binOp,Op.equal,Op.maxDepth,h3,h.1]
end
section
variable {P:Program}{C:Xq}{σ:St}{Q:Exit->St->Prop}{ks:L_ Fr}{ops:Array Oper}{rest:L_ Oper}{o:Oper}
def AK.eqNil {x y:Operand}{T U d e z:Nat}{rows:L_ (L_ V)}(hg:o.guard=none)(ho:o.op=.binOp .eql T x y U)(hd:o.dst=some d)(hn:Nat.ble (d+1) C.n=true)(hx:σ.opd x=some (.sl z rows))(hy:σ.opd y=some (.lit (.slice none 0 0)))(hT:P.underlying T=some (.slice e))
  (h1:rows=[]->AK P C Q (.o ops rest) ks (σ.put d (.b true))) (h2:AK P C Q (.o ops rest) ks (σ.put d (.b false))):AK P C Q (.o ops (o::rest)) ks σ:=by
 intro a w hR
 obtain⟨φ,D⟩:=hR
 have hyv:a.eval y=.slice none 0 0:=(D.opd hy).lit_inv
 have h:∀p l c,a.eval x=.slice p l c->(execOp a.eval o).run P w=.ok (.value (.bool p.isNone)) w:=λp l c e=>by
  simp[execOp,ho,e,hyv,eqGuard,binOp,run_equal_slice_nil w T _ p l c hT]
 have go:∀{v:Bool} {σ':St},(execOp a.eval o).run P w=.ok (.value (.bool v)) w->σ'=σ.put d (.b v)->AK P C Q (.o ops rest) ks σ'->wpListIn C.F 0 P ops (up C (unw P C Q ks)) (o::rest) a w:=λ{v σ'} e e2 k=>by
  have:Ql P C { o with op:=.move (.const (.bool v)) } σ (σ.put d (.b v)):=Ql.move rfl hd hn rfl
  simp only[wpListIn,Region.wanted,hg,if_true]
  refine⟨λ_ _=>trivial,?_⟩
  rw[Qgd e,Oper.uponIn_value]
  subst e2
  refine k _ _ ⟨φ,?_⟩
  rw[hd]
  exact D.put (XM hn) (.dat (.b _))
 rcases(D.opd hx).sl_inv with⟨p,c,j,h0⟩|⟨b,off,cap,j,_⟩
 ·cases p with
  | none=>exact go (h none 0 c j) rfl (h1 h0)
  | some p=>exact go (h (some p) 0 c j) rfl h2
 exact go (h _ _ _ j) rfl h2
end
section
variable {P:Program}{C:Xq}{σ:St}{o:Oper}
def Ql.buildAny {T d e z by_ n:Nat}{D:Array (Nat×Operand)}{zs vs:L_ V}{qs:L_ (Nat×V)}(ho:o.op=.buildSlice T n D)(hd:o.dst=some d)(hn:Nat.ble (d+1) C.n=true)
  (hT:Yb P T=some (e,z,by_)) (hz:XW P e=some zs) (hzl:zs.length=z) (hz0:z≠0) (hbig:n*z<=16777216) (hq:σ.opds D.toList=some qs) (hv:qs.all (λq=>q.2.isV)=true)
  (hf:EK (λi=>some (i*z,z)) ((List.range (n*z)).map λk=>zs.getD (k % z) .J) qs=some vs)
  (hfr:look σ.hp d=none):Ql P C o σ ((σ.set d (.var vs)).put d (.own d n)):=by
 refine Ql.val λφ a w hr=>?_
 obtain⟨hu,i,hi,hi1,_⟩:=KS hT
 obtain⟨i',zv,hi',hz',rfl⟩:=Ce hz
 rw[hi]at hi';cases hi'
 have hzs:zv.cells.size=i.size:=by rw[hi1];simpa using hzl
 have hf0:=hf
 rw[<-hi1]at hf
 rw[<-Qas zv.cells n i.size hzs (by omega)]at hf
 obtain⟨xs',h1,h2,h3⟩:=hr.fill hq hv hf
 refine⟨.slice (some ⟨w.heap.size,0,none⟩) n n,w.alloc (.cells xs' e),ext φ d ⟨w.heap.size,n,1,[],0⟩,?_,?_⟩
 ·have e2:(D.map λp=>(p.1,a.eval p.2)).toList=D.toList.map λp=>(p.1,a.eval p.2):=by simp
  have hb:¬(n*i.size > 2 ^ 24):=by rw[hi1];omega
  by_cases hn0:n*i.size=0
  ·have hn1:n=0:=by
    rw[hi1]at hn0
    rcases Nat.mul_eq_zero.1 hn0 with h | h
    ·exact h
    exact absurd h hz0
   subst hn1
   simp only[CU]at h1
   rw[QhG,Array.map_empty]at h1
   simp only[execOp,ho,Instr.buildSlice,Xc,run_underlying hu,Xm,sizeOf,typeInfo,run_program,hi,Xp,CU,if_true,e2,QhG,Array.map_empty]
   simp[h1,newRow]
  simp only[execOp,ho,Instr.buildSlice,Xc,run_underlying hu,Xm,sizeOf,typeInfo,run_program,hi,Xp,if_neg hb,if_neg hn0,zeroValue,hz',e2,h1,newRow,run_newObj]
  simp
 have hN:=hr.none_of_look hfr
 have hnew:=hr.alloc (cap:=n) (z:=1) hfr (C.slot hn) (ob:=.var vs) (obj:=.cells xs' e)
  ⟨xs',e,heap_alloc_new w _,h2,rfl,λj x v hx hv'=>(h3 j x v hx hv').mono (hr.mono_ext _ hN) (hr.imm_alloc d n 1 _ hN)⟩
 rw[hd]
 refine hnew.put (XM hn) ?_
 exact .own d n ⟨w.heap.size,n,1,[],0⟩ (Xt _ _ _) (JE _)
def Ql.idxV {T d e z by_ b n m:Nat}{x y:Operand}{cs:L_ V}{k:IntKind}{j:Int}(ho:o.op=.indexAddr T x y)(hd:o.dst=some d)(hn:Nat.ble (d+1) C.n=true)
  (hx:σ.opd x=some (.own b n)) (hy:σ.opd y=some (.i k j)) (hT:Yb P T=some (e,z,by_)) (hb:look σ.hp b=some (.var cs)) (h:(0<=j/\j<n)/\j.toNat*z=m):
  Ql P C o σ (σ.put d (.loc b 0 m)):=by
 refine Ql.same hd hn λφ a w hr=>?_
 obtain⟨⟨h,h1⟩,rfl⟩:=h
 rcases(hr.opd hx).own_inv with⟨_,rfl⟩|⟨B,hB,D,he⟩
 ·omega
 refine⟨.pointer (some ⟨B.b,B.off+(0*B.z+j.toNat*z),none⟩),?_,.loc b 0 (j.toNat*z) B hB⟩
 simp only[execOp,ho,he,(hr.opd hy).i_inv,Xc,SA hT h h1,Xm,Xp,Addr.add_lit,CU,BA]
end
section
variable {P:Program}{C:Xq}{Q:Exit->St->Prop}
def Rnd (P:Program)(C:Xq)(Q:Exit->St->Prop)(ks:L_ Fr)(c:Code):Nat->St->Prop
 | 0,_=>False
 | n+1,σ=>AK P C Q (.c c) (.cut (Rnd P C Q ks c n)::ks) σ
def AK.rnd {ks:L_ Fr}{c:Code}{n:Nat}{σ:St}(h:AK P C Q (.c c) (.cut (Rnd P C Q ks c n)::ks) σ):Rnd P C Q ks c (n+1) σ:=h
def AK.loopN {ks:L_ Fr}{c:Code}(n:Nat){σ:St}(h:Rnd P C Q ks c n σ):AK P C Q (.c (.loop c)) ks σ:=by
 have key:∀(n:Nat) (σ:St) (a:Act) (w:World),Rnd P C Q ks c n σ->R C σ a w->Code.roundsIn C.F 0 P c (up C (unw P C Q ks)) n a w:=by
  intro n
  induction n with
  | zero=>intro σ a w h;exact h.elim
  | succ n ih=>
   intro σ a w h j
   rw[roundsIn_succ]
   refine wpIn_mono (h a w j) ?_
   rintro e a' w' ⟨σ',D,h2⟩
   cases e with
   | normal=>exact ih σ' a' w' D h2
   | _=>exact⟨σ',D,h2⟩
 exact λa w j=>wpIn_loop_rounds n (key n σ a w h j)
end
def Qgq (h:L_ V):L_ Tmp->L_ V->L_ V
 | p::j,v::vs=>Qgq (h.set p v) j vs
 | _,_=>h
def QmM {φ:Nat->O_ QU}{I:Nat->Prop}{w:World}:∀(ps:L_ Tmp) (h:L_ Value) (vs:L_ V) (D:Array Value) (cs:L_ V),h.length=vs.length->D.size=cs.length->
  (∀(j:Nat) x v,D[j]? = some x->cs[j]? = some v->QQ φ I w x v)->(∀(j:Nat) x v,h[j]? = some x->vs[j]? = some v->QQ φ I w x v)->
  ((ps.zip h).foldl (λD p=>D.setIfInBounds p.1 p.2) D).size=(Qgq cs ps vs).length/\∀(j:Nat) x v,((ps.zip h).foldl (λD p=>D.setIfInBounds p.1 p.2) D)[j]? = some x->(Qgq cs ps vs)[j]? = some v->QQ φ I w x v:=by
 intro ps
 induction ps with
 | nil=>intro h vs D cs _ h2 h3 _;cases vs<;>exact⟨h2,h3⟩
 | cons p ps ih=>
  intro h vs D cs h1 h2 h3 h4
  cases h with
  | nil=>cases vs with
   | nil=>exact⟨h2,h3⟩
   | cons=>cases h1
  | cons y h=>cases vs with
   | nil=>cases h1
   | cons v vs=>
    refine ih h vs (D.setIfInBounds p y) (cs.set p v) (by simpa using h1) (by simpa using h2) (λj x u hx hu=>?_) λj x u hx hu=>h4 (j+1) x u hx hu
    by_cases e:p=j
    ·subst e
     rw[Array.getElem?_setIfInBounds_self]at hx
     rw[List.getElem?_set_self']at hu
     split at hx
     ·rename_i hlt
      cases hx
      rw[Qy (by omega)]at hu
      cases hu
      exact h4 0 _ _ rfl rfl
     cases hx
    rw[QjI e]at hx
    rw[Qc8 e]at hu
    exact h3 j x u hx hu
def PI (P:Program)(l:Nat)(K:Bm)(us:L_ V)(hs:L_ (Nat×Ob))(D:V->L_ (Nat×Ob)->Prop):Prop:=
 ∀(S:Nat->Prop) (φ:Nat->O_ QU) (w:World) (h:Array Value),Ins S φ w h us hs->PU P S w->
  RoundIn Fence.wide 0 P l K.fn h K.assign K.body w λe w'=>∃x v j φ',e=.returned x/\D v j/\Outs S φ w φ' w' x v j
def Qph {C:Xq}{n:Nat}{P:Program}{l:Nat}{f:FuncId}{tmps:Array Value}{assign body:Code}{w:World}{R:Ending->World->Prop}(h:RoundIn Fence.wide 0 P l f tmps assign body w R):RoundIn C.F n P l f tmps assign body w R:=
 ⟨trivial,λc j _=>h.2 c j (room_wide _)⟩
section
variable {P:Program}{C:Xq}{φ:Nat->O_ QU}{σ:St}{a:Act}{w:World}{o:Oper}
def RR.lp (h:RR C φ σ a w){b l:Nat}{K:Bm}{j:L_ V}{q:Nat}(D:look σ.hp b=some (.lp l K j q)):∃B,φ b=some B/\Qoz φ (Xf C φ w) w B l K j q:=by
 rcases h.heap b _ D with h | ⟨_,h⟩
 ·exact h
 exact h.elim
def RR.lpSet (h:RR C φ σ a w){b l:Nat}{K:Bm}{cs:L_ V}{q q':Nat}(hb:look σ.hp b=some (.lp l K cs q)):
  ∃r:Loop,w.heap[l]? = some (.loop r)/\r.state=lst q/\r.pending=Su q/\RR C φ (σ.set b (.lp l K cs q')) a (w.putObj l (.loop { r with state:=lst q',pending:=Su q' })):=by
 obtain⟨B,hB,tmps,D,rfl,h1,h2,h3,h4⟩:=h.lp hb
 refine⟨_,h2,rfl,rfl,?_⟩
 have hlt:=(h.lt b B B.b hB B.self).1
 have hk:∀k,k≠B.b->(w.putObj B.b (.loop { state:=lst q',pending:=Su q',fn:=K.fn,tmps,params:=K.ps,assign:=K.assign,body:=K.body,defers:=D })).heap[k]? = w.heap[k]? := λk hk=>World.putObj_heap_other hk
 refine h.write hB rfl rfl rfl World.putObj_size hk ⟨tmps,D,rfl,h1,World.putObj_heap_same hlt,h3,λj x v hx hv=>?_⟩
 refine(h4 j x v hx hv).mono (λ_ _ h=>h) λk hk'=>⟨⟨by rw[World.putObj_size];exact hk'.1,hk'.2⟩,hk k λe=>hk'.2.2 b B hB (.inl e)⟩
def Ql.yield {d b l:Nat}{K:Bm}{cs:L_ V}{q:Nat}{x:Operand}{ags:Array Operand}{ts:Array TypeId}{M N:L_ (Nat×Nat)}{dead:L_ Nat}{hsC outs hsN:L_ (Nat×Ob)}{vs us:L_ V}{r r':V}(ho:o.op=.call { callee:=.value x,args:=ags,argTypes:=ts })
  (hx:σ.opd x=some (.clo (.yield l) [] [])) (hlp:look σ.hp b=some (.lp l K cs q)) (hq:q=0) (ha:σ.opsV ags.toList=some vs) (hps:vs.length=K.ps.size) (hd:o.dst=some d) (hn:Nat.ble (d+1) C.n=true) (hpg:C.pg P)
  (hnm:Du σ M N dead outs=true) (hnd:(M.map Prod.fst).Nodup)
  (hv:Vws σ.hp false false (Et M) (λa b=>look M b=some a) (Qgq cs K.ps.toList vs) us) (hobs:Ld σ.hp false false (Et M) (λa b=>look M b=some a) σ.hp M hsC)
  (hc:PI P l K us hsC (Gives r outs)) (hback:Ld [] false false [] (λc b=>look N b=some c) outs N hsN) (hr':Vw [] false false [] (λc b=>look N b=some c) r r'):
  Ql P C o σ ((σ.after dead hsN).put d r'):=by
 intro a w ⟨φ,hr⟩ next Q hnext
 subst hq
 have hN:=Names.of hnm hnd
 refine⟨λ_ _=>trivial,?_⟩
 obtain⟨h1,h2⟩:=hr.opsV _ _ ha
 obtain⟨xs,ys,hev,e1,e2,_,_⟩:=(hr.opd hx).clo_inv
 have e1:xs=#[]:=Qlq e1
 have e2:ys=#[]:=Qlq e2
 subst e1;subst e2
 obtain⟨B,hB,tmps,D,e0,_,hh,hsz,hrep⟩:=hr.lp hlp
 have hl1:(ags.toList.map a.eval).length=vs.length:=by simpa using h1
 obtain⟨s1,s2⟩:=QmM (φ:=φ) (I:=Xf C φ w) (w:=w) K.ps.toList (ags.toList.map a.eval) vs tmps cs hl1 hsz hrep (λj x v hx hv=>by
  simp only[Ya,XT]at hx
  obtain⟨y,hy,rfl⟩:=hx
  exact h2 j y v hy hv)
 have hsize:(ags.map a.eval).size=K.ps.size:=by rw[<-hps,<-hl1];simp
 have hfold:(K.ps.zip (ags.map a.eval)).foldl (λtmps (t,a)=>tmps.setIfInBounds t a) tmps=(K.ps.toList.zip (ags.toList.map a.eval)).foldl (λtm p=>tm.setIfInBounds p.1 p.2) tmps:=by
  rw[<-Array.foldl_toList];simp
 have hex:(execOp a.eval o).run P w=.ok (.round l K.fn ((K.ps.toList.zip (ags.toList.map a.eval)).foldl (λtm p=>tm.setIfInBounds p.1 p.2) tmps).toList.toArray K.assign K.body) w:=by
  simp only[execOp,ho,resolve,Xc,hev,Deferred.ofValue,Xp,Xm,invoke,Array.empty_append]
  rw[run_yield hh hsize,hfold]
 rw[Oper.semAt_eq _ _ _ (by rw[ho];intro c hc;cases hc),hex,Oper.uponIn_round]
 refine⟨(λh=>by cases h),Qph ((hc _ _ w _ (Ins.of_vals hr (by simpa using s1) (λj x v hx hv=>s2 j x v (by simpa using hx) hv) hN.injM hN.param hv hobs) ((hr.glob hpg).mono λ_ h=>.inl h)).mono ?_)⟩
 rintro e w' ⟨x,v,hs',φ',rfl,⟨rfl,hso⟩,hout⟩
 obtain⟨h3,h4⟩:=hr.after hN hout hso (λc s h=>by
  obtain⟨ob',e1⟩:=hobs.get.2 c s h
  obtain⟨s',ob,e2,e3,_⟩:=hobs.get.1 c ob' e1
  rw[h]at e2;cases e2;exact⟨ob,e3⟩) hback
 refine hnext _ _ ⟨Le φ M N dead φ',?_⟩
 rw[hd]
 exact h3.put (XM hn) (h4 hr')
def Qpi (b l:Nat)(K:Bm)(h:V->L_ (Nat×Ob)->Prop):Exit->St->Prop
 | .normal,σ=>∃j,look σ.hp b=some (.lp l K j 1)/\h (.b true) ((b,.lp l K j 0)::σ.hp)
 | .ret,σ=>∃j,look σ.hp b=some (.lp l K j 1)/\h (.b false) ((b,.lp l K j 2)::σ.hp)
 | .exit k,σ=>∃j,look σ.hp b=some (.lp l K j 1)/\h (.b false) ((b,.lp l K j (k+3))::σ.hp)
 | _,_=>False
def PI.walk {b l:Nat}{K:Bm}{us:L_ V}{hs:L_ (Nat×Ob)}{post:V->L_ (Nat×Ob)->Prop}(n:Nat)(hn:us.length=n)(hle:Nat.ble n 617=true)
  (h:∀C:Xq,Jo P C n->AK P C (λe σ=>e=.normal/\∃cs,look σ.hp b=some (.lp l K cs 0)/\AK P C (Qpi b l K post) (.c K.body) [] (σ.set b (.lp l K cs 1))) (.c K.assign) [] ⟨Mw 0 us,hs⟩):PI P l K us hs post:=by
 intro S φ w vals hi hG
 let C:Xq:=⟨w,S,λk=>∃o B,φ o=some B/\B.has k,n,φ,JR hle,some l⟩
 have hF:Fence.wide.inRound l=C.F:=rfl
 have hI:∀k,S k->Xf C φ w k/\w.heap[k]? = w.heap[k]? := λk hk=>⟨⟨hi.lt k hk,λ_=>hk,λo B hB e=>((hi.dom o B hB).2.1 k e).2 hk⟩,rfl⟩
 have hR:R C ⟨Mw 0 us,hs⟩ { tmps:=vals,defers:=[] } w:=by
  refine⟨φ,rfl,rfl,rfl,JE _,λ_ _ _=>rfl,hi.inj,λo B hB=>(hi.dom o B hB).2.2,λo B k hB hk=>⟨((hi.dom o B hB).2.1 k hk).1,λ_=>⟨o,B,hB,hk⟩⟩,λo B k hB hk hlt=>absurd (hi.dom o B hB).1 (by omega),⟨λ_ _ _ h=>h,λ_ _ _ _ _ h=>h⟩,
   by show vals.size=n;rw[hi.size,hn],⟨[],rfl,List.nodup_nil,λ_ h=>by cases h⟩,λt v hv=>?_,λo ob hob=>?_⟩
  ·obtain⟨_,h2⟩:=QiI us 0 t v hv
   rw[Nat.sub_zero]at h2
   have hlt:t<vals.size:=by rw[hi.size];exact(Xe.1 h2).1
   exact⟨vals[t],Uj hlt,(hi.args t _ v (Uj hlt) h2).mono (λ_ _ h=>h) hI⟩
  rcases hi.heap o ob hob with⟨B,hB,hr⟩|hn
  ·exact .inl ⟨B,hB,hr.mono (λ_ _ h=>h) hI λ_ _=>rfl⟩
  exact .inr hn
 refine roundIn_of_wpIn trivial ?_
 rw[hF]
 refine wpIn_mono (h C ⟨rfl,hG,λg hg ⟨o,B,hB,hb⟩=>((hi.dom o B hB).2.1 g hb).2 (hG g hg).1⟩ _ _ hR) ?_
 rintro e a1 w1 ⟨σ1,⟨rfl,cs,hlp,hbody⟩,φ1,hr1⟩
 obtain⟨r,g1,g2,g3,g4⟩:=hr1.lpSet (q':=1) hlp
 refine⟨_,run_beginRound g1 g2,?_⟩
 have hbusy:({ r with state:=LoopState.busy }:Loop)={ r with state:=lst 1,pending:=Su 1 }:=by
  rw[show Su 1=r.pending from g3.symm];rfl
 rw[hbusy]
 refine wpIn_mono (hbody _ _ ⟨φ1,g4⟩) ?_
 rintro e a2 w2 ⟨σ2,hq,φ2,hr2⟩
 have fin:∀(j:O_ Code) (q:Nat) (D:L_ V),look σ2.hp b=some (.lp l K D 1)->Su q=j->(if j.isNone then LoopState.ready else LoopState.done)=lst q->post (.b j.isNone) ((b,.lp l K D q)::σ2.hp)->
   ∃v w',(Instr.endRound l j).run P w2=.ok v w'/\∃x v' hs' φ',Ending.returned v=.returned x/\post v' hs'/\Outs S φ w φ' w' x v' hs':=λj q D hl2 hj hst hp=>by
  obtain⟨r2,k1,_,_,k4⟩:=hr2.lpSet (q':=q) hl2
  refine⟨_,_,run_endRound j k1,.bool j.isNone,.b j.isNone,_,φ2,rfl,hp,?_⟩
  rw[hst,<-hj]
  exact⟨k4.os,k4.tape,k4.output,k4.size,λk hk hne=>k4.kept k hk (λ⟨o,B,hB,e⟩=>hne o B hB e),k4.inj,k4.dom,
   λo B k hB hk=>⟨(k4.lt o B k hB hk).1,λhlt=>(k4.lt o B k hB hk).2 hlt⟩,k4.new,k4.stay,.dat (.b _),k4.heap⟩
 cases e with
 | normal=>obtain⟨D,hl2,hp⟩:=hq;exact fin none 0 D hl2 rfl rfl hp
 | ret=>obtain⟨D,hl2,hp⟩:=hq;exact fin (some .ret) 2 D hl2 rfl rfl hp
 | exit k=>obtain⟨D,hl2,hp⟩:=hq;exact fin (some (.exit k)) (k+3) D hl2 rfl rfl hp
 | _=>exact hq.elim
def RR.mark (h:RR C φ σ a w):RR C φ σ { a with defers:={ target:=.collected w.heap.size,args:=#[] }::a.defers } (w.alloc (.deferred (some []))):=by
 have j:=h.step (w':=w.alloc (.deferred (some []))) rfl rfl rfl (by simp) (λk hk=>Below.heap_alloc w _ k hk)
 refine⟨j.os,j.tape,j.output,j.size,j.kept,j.inj,j.dom,j.lt,j.new,j.stay,j.tmps,?_,j.frame,j.heap⟩
 obtain⟨Ds,h1,h2,h3⟩:=j.defers
 obtain⟨Ds',h1',h2',h3'⟩:=h.defers
 refine⟨w.heap.size::Ds',by simp[h1'],Me.2 ⟨λhm=>absurd (h3' _ hm).2.1.1 (by omega),h2'⟩,λD hD=>?_⟩
 rcases Yt.1 hD with rfl | hD
 ·refine⟨h.size,⟨by simp,λhlt=>absurd h.size (by omega),λo B hB hh=>absurd (h.lt o B _ hB hh).1 (by omega)⟩,World.alloc_heap_new w _⟩
 obtain⟨a1,a2,a3⟩:=h3' D hD
 exact⟨a1,⟨by have:=a2.1;simp;omega,a2.2⟩,(Below.heap_alloc w _ D a2.1).trans a3⟩
def RR.killTo (h:RR C φ σ a w){b:Nat}{B:QU}(j:φ b=some B){w':World}(ho:w'.os=w.os)(ht:w'.tape=w.tape)(hu:w'.output=w.output)(hs:w'.heap.size=w.heap.size)(hk:∀k,k≠B.b->w'.heap[k]? = w.heap[k]?):RR C (EC φ b) (σ.kill b) a w':=by
 have hI:∀k,Xf C φ w k->Xf C (EC φ b) w' k/\w'.heap[k]? = w.heap[k]? := λk D=>⟨⟨by rw[hs];exact D.1,D.2.1,λo B' hB'=>D.2.2 o B' (JS hB').2⟩,hk k λe=>D.2.2 b B j (.inl e)⟩
 have hφ:∀o B,o≠b->φ o=some B->EC φ b o=some B:=λo B ho j=>by rw[DN ho];exact j
 refine⟨ho.trans h.os,ht.trans h.tape,hu.trans h.output,by rw[hs];exact h.size,λk h1 h2=>(hk k λe=>h2 ((h.lt b B k j (.inl e)).2 h1)).trans (h.kept k h1 h2),λo o' B B' k h1 h2=>h.inj o o' B B' k (JS h1).2 (JS h2).2,?_,λo B k j=>by rw[hs];exact h.lt o B k (JS j).2,λo B k j=>h.new o B k (JS j).2,
  ⟨λo B h1 j=>h.stay.1 o B h1 (JS j).2,λo ob B h1 ho j=>by obtain⟨hne,ob',h2,_⟩:=KP _ _ _ ho;rw[DN hne];exact h.stay.2 o ob' B h1 h2 j⟩,h.tmps,h.defers.mono hI,?_,?_⟩
 ·intro o B j
  obtain⟨h1,h2⟩:=JS j
  obtain⟨ob,hob⟩:=h.dom o B h2
  exact⟨_,Ul _ _ _ h1 hob⟩
 ·intro t v hv
  obtain⟨v',hv',rfl⟩:=Pn _ _ _ hv
  obtain⟨x,hx,hr⟩:=h.frame t v' hv'
  exact⟨x,hx,hr.kill hφ hI⟩
 intro o ob hob
 obtain⟨hne,ob',hob',rfl⟩:=KP _ _ _ hob
 rcases h.heap o ob' hob' with⟨B',hB',hr⟩|⟨h1,hz⟩
 ·exact .inl ⟨B',hφ o B' hne hB',hr.kill hφ hI λk D=>hk k λe=>hne (h.inj o b B' B k hB' j D (.inl e))⟩
 exact .inr ⟨by rw[DN hne];exact h1,hz.kill⟩
def snap (h:L_ Nat)(fr:L_ (Nat×V))(n:Nat):L_ V:=(List.range n).map λt=>bif Xz h t then(match look fr t with
 | some v=>v
 | none=>.J)else .J
def RR.snap {ts:L_ Nat}(h:RR C φ σ a w):∀(j:Nat) x v,a.tmps[j]? = some x->(snap ts σ.fr C.n)[j]? = some v->QQ φ (Xf C φ w) w x v:=by
 intro j x v hx D
 simp only[Vm.snap,Ya,XT]at D
 obtain⟨t,ht,rfl⟩:=D
 obtain⟨_,rfl⟩:=Xe.1 ht
 simp only[RP]at *
 cases hm:Xz ts j with
 | false=>exact .dat (.J _)
 | true=>
 simp only[Qx]
 split
 ·rename_i v D
  obtain⟨y,hy,hr⟩:=h.frame _ _ D
  rw[hx]at hy;cases hy;exact hr
 exact .dat (.J _)
def rgV (P:Program)(σ:St)(f:Nat)(vs:L_ V)(M N:L_ (Nat×Nat))(dead:L_ Nat)(ms:L_ Ev)(outs:L_ (Nat×Ob))(r:V):O_ (St×Prop):=
 bif Du σ M N dead outs&&BD (M.map Prod.fst)&&BD (N.map Prod.fst)then match NB (DO M) ms vs with
  | some us=>match Fy (DO M) (look σ.hp) M with
   | some h=>match Fy (DO N) (look outs) N with
    | some j=>some (σ.after dead j,QP P f us h (Gives r outs))
    | none=>none
   | none=>none
  | none=>none
 else none
def atJ (p:Prop)(f:Code->Prop):O_ Code->Prop
 | none=>p
 | some c=>f c
def AK.rangeF {Q:Exit->St->Prop}{ks:L_ Fr}{g:Operand}{ps:Array Tmp}{assign body:Code}{f n:Nat}{fs cps:L_ V}(b:Nat)(ts:L_ Nat)(M N:L_ (Nat×Nat))(dead:L_ Nat)(ms:L_ Ev)(K:Nat->Bm)(hCn:Jo P C n)(hrnd:C.rnd=none)(hK:∀fn,K fn=⟨fn,ps,assign,body⟩)
  (hg:σ.opd g=some (.clo (.func f) fs cps)) (he:Zi P f=true) (hb:look σ.hp b=none) (hb2:Nat.ble 617 b=false)
  (H:∀l fn,∃outs r σ2 φ2 cs2 q,rgV P (σ.set b (.lp l (K fn) (snap ts σ.fr n) 0)) f (fs++(.clo (.yield l) [] []::cps)) M N dead ms outs r=some (σ2,φ2)/\φ2/\look σ2.hp b=some (.lp l (K fn) cs2 q)/\q≠1/\
   atJ (AK P C Q (.x .normal) ks (σ2.kill b)) (λc=>AK P C Q (.c c) ks (σ2.kill b)) (Su q)):AK P C Q (.c (.rangeFunc g ps assign body)) ks σ:=by
 obtain rfl:K=λfn=>⟨fn,ps,assign,body⟩:=funext hK
 have hpg:=hCn.g
 replace hCn:=hCn.n
 subst hCn
 intro a w ⟨φ,hr⟩
 refine wpIn_rangeFunc λfn _=>?_
 obtain⟨outs,r,σ2,φ2,cs2,q,e,hφ2,hq,hq1,hk⟩:=H (w.heap.size+1) fn
 obtain⟨xs,ys,hev,e1,e2,e3,e4⟩:=(hr.opd hg).clo_inv
 have hb3:b<617:=Eu (by rw[hb2];rfl)
 refine⟨w.heap.size+1,[{ target:=.collected w.heap.size,args:=#[] }],(w.alloc (.deferred (some []))).alloc (.loop { state:=.ready,pending:=none,fn,tmps:=a.tmps,params:=ps,assign,body,defers:=w.heap.size }),{ target:=.fn (.func f) ys,args:=xs++#[.func (.yield (w.heap.size+1)) #[] #[]] },(w.alloc (.deferred (some []))).alloc (.loop { state:=.ready,pending:=none,fn,tmps:=a.tmps,params:=ps,assign,body,defers:=w.heap.size }),f,(xs++#[.func (.yield (w.heap.size+1)) #[] #[]])++ys,(w.alloc (.deferred (some []))).alloc (.loop { state:=.ready,pending:=none,fn,tmps:=a.tmps,params:=ps,assign,body,defers:=w.heap.size }),?_,?_,λ_ _=>trivial,?_,(λh=>by cases h),?_⟩
 ·rw[show C.F.round=none from hrnd];exact run_enterLoop_outer _ _ _ _ _
 ·have hy:a.eval (.const (.func (.yield (w.heap.size+1)) #[] #[]))=.func (.yield (w.heap.size+1)) #[] #[]:=rfl
  simp only[resolve,hev,Deferred.ofValue,Xp,List.map_toArray,EJ,List.map_nil,hy]
 ·exact BB he
 have hm:=hr.mark
 have hN0:=hm.none_of_look hb
 have hsz:(w.alloc (.deferred (some []))).heap.size=w.heap.size+1:=by simp
 have hR1:=hm.alloc (cap:=0) (z:=0) hb hb3 (ob:=.lp (w.heap.size+1) ⟨fn,ps,assign,body⟩ (snap ts σ.fr C.n) 0)
  (obj:=.loop { state:=.ready,pending:=none,fn,tmps:=a.tmps,params:=ps,assign,body,defers:=w.heap.size })
  ⟨a.tmps,w.heap.size,hsz,rfl,by rw[<-hsz];exact World.alloc_heap_new _ _,by rw[hr.tmps];simp[Vm.snap],λj x v hx hv=>(hm.snap j x v hx hv).mono (hm.mono_ext _ hN0) (hm.imm_alloc b 0 0 _ hN0)⟩
 rw[hsz]at hR1
 generalize hσ1:σ.set b (.lp (w.heap.size+1) ⟨fn,ps,assign,body⟩ (snap ts σ.fr C.n) 0)=σ1 at hR1 e
 generalize hw1:(w.alloc (.deferred (some []))).alloc (.loop { state:=.ready,pending:=none,fn,tmps:=a.tmps,params:=ps,assign,body,defers:=w.heap.size })=w1 at hR1 ⊢
 have hval:(xs++#[.func (.yield (w.heap.size+1)) #[] #[]])++ys=(xs.toList++(.func (.yield (w.heap.size+1)) #[] #[]::ys.toList)).toArray:=by apply Array.ext';simp
 rw[hval]
 unfold rgV at e
 replace e:=XJ e;obtain⟨e0,e⟩:=e
 simp only[QH]at e0
 obtain⟨⟨h1,h2⟩,h3⟩:=e0
 have h2:=KT.1 h2
 have h3:=KT.1 h3
 have inj:Ck M=true/\Ck N=true:=by
  simp only[Du,QH]at h1
  exact⟨h1.1.1.1,h1.1.1.2⟩
 have mM:∀a b,DO M a=some b->look M b=some a:=λa b h=>JB inj.1 (Ac h) h2
 have mN:∀a b,DO N a=some b->look N b=some a:=λa b h=>JB inj.2 (Ac h) h3
 have hNm:=Names.of h1 h2
 split at e
 case h_2=>cases e
 rename_i us hus
 split at e
 case h_2=>cases e
 rename_i hsC hC
 split at e
 case h_2=>cases e
 rename_i hsN hNN
 cases e
 have hobs:=WE (hp:=σ1.hp) (g:=false) (bad:=Et M) mM hC
 have hfr1:σ1.fr=σ.fr:=by rw[<-hσ1];rfl
 refine ZG ((hφ2 _ _ w1 _ (Ins.of_vals (g:=false) (vs:=fs++(.clo (.yield (w.heap.size+1)) [] []::cps)) hR1 (by simp[e1,e2]) (λj x v hx hv=>?_) hNm.injM hNm.param (Ft mM hus) hobs) ((hR1.glob hpg).mono λ_ h=>.inl h)).mono ?_)
 ·have up:=λ{x:Value} {v:V} (h:QQ φ (Xf C φ w) w x v)=>(h.mono (φ':=φ) (I':=Xf C φ (w.alloc (.deferred (some [])))) (w':=w.alloc (.deferred (some []))) (λ_ _ h=>h) λk hk=>⟨⟨by have:=hk.1;simp;omega,hk.2⟩,Below.heap_alloc w _ k hk.1⟩).mono (hm.mono_ext ⟨w.heap.size+1,0,0,[],0⟩ hN0) (by
   have:=hm.imm_alloc b 0 0 (.loop { state:=.ready,pending:=none,fn,tmps:=a.tmps,params:=ps,assign,body,defers:=w.heap.size }) hN0
   rw[hsz,hw1]at this;exact this)
  by_cases c1:j<fs.length
  ·rw[YY (by simpa using (by omega:j<xs.size))]at hx
   rw[YY c1]at hv
   exact up (e3 j x v (by simpa using hx) hv)
  rw[Ko (by simp;omega)]at hx
  rw[Ko (by omega)]at hv
  simp only[Array.length_toList]at hx
  rw[e1]at hx
  generalize j-fs.length=i at hx hv
  cases i with
  | zero=>
   simp at hx hv;subst hx;subst hv
   exact .clo (.yield _) #[] #[] [] [] rfl rfl (λj x v h=>by simp at h) (λj x v h=>by simp at h)
  | succ i=>simp only[Qam]at hx hv;exact up (e4 i x v (by simpa using hx) hv)
 rintro e w' ⟨x,v,hs',φ',rfl,⟨rfl,hso⟩,hout⟩
 obtain⟨k3,_⟩:=hR1.after hNm hout hso (λc s h=>by
  obtain⟨ob',e1⟩:=hobs.get.2 c s h
  obtain⟨s',ob,e2,e3,_⟩:=hobs.get.1 c ob' e1
  rw[h]at e2;cases e2;exact⟨ob,e3⟩) (WE mN hNN)
 obtain⟨B,hB,tmps,D,f1,f2,f3,f4,f5⟩:=k3.lp hq
 have hst:lst q≠.busy:=by
  match q,hq1 with
  | 0,_=>exact(by intro h;cases h)
  | 1,h=>exact absurd rfl h
  | k+2,_=>exact(by intro h;cases h)
 refine⟨_,_,run_endLoop f3 hst,?_⟩
 have hkill:=k3.killTo hB (w':=w'.putObj (w.heap.size+1) (.loop { state:=.exhausted,pending:=Su q,fn,tmps,params:=ps,assign,body,defers:=D })) rfl rfl rfl World.putObj_size (λk hk=>World.putObj_heap_other (by rw[<-f1];exact hk))
 simp only
 cases hj:Su q with
 | none=>rw[hj]at hk hkill;exact hk _ _ ⟨_,hkill⟩
 | some c=>rw[hj]at hk hkill;exact hk _ _ ⟨_,hkill⟩
end
section
variable {P:Program}{C:Xq}{φ:Nat->O_ QU}{σ:St}{a:Act}{w:World}{o:Oper}
def Qci (P:Program)(T:TypeId)(i:Nat):O_ (Nat×Bool×Nat):=match P.underlying T with
 | some (.struct fs)=>match fs[i]? with
  | some f=>match AS P f.type with
   | some g=>match Av P f.type with
    | some n=>some (f.offset,g,n)
    | none=>none
   | none=>none
  | none=>none
 | _=>none
def QlR {T i off n:Nat}{g:Bool}(h:Qci P T i=some (off,g,n)):∃(fs:Array Field) (f:Field),P.underlying T=some (.struct fs)/\fs[i]? = some f/\f.offset=off/\AS P f.type=some g/\Av P f.type=some n:=by
 unfold Qci at h
 split at h
 ·rename_i fs hu
  split at h
  ·rename_i f j
   split at h
   ·rename_i g' D
    split at h
    ·rename_i n' hn;cases h;exact⟨fs,f,hu,j,rfl,D,hn⟩
    cases h
   cases h
  cases h
 cases h
def Ql.field {T i d off n:Nat}{g:Bool}{x:Operand}{cs:L_ V}{v:V}(ho:o.op=.field T x i)(hd:o.dst=some d)(hn:Nat.ble (d+1) C.n=true)(hx:σ.opd x=some (.agg cs))(hT:Qci P T i=some (off,g,n))
  (h:(bif g then some (.agg ((cs.drop off).take n))else cs[off]?)=some v):Ql P C o σ (σ.put d v):=by
 refine Ql.same hd hn λφ a w hr=>?_
 obtain⟨fs,f,hu,hf,rfl,hg,hsz⟩:=QlR hT
 obtain⟨xs,he,hs,hc⟩:=(hr.opd hx).agg_inv
 cases g with
 | true=>
  cases h
  refine⟨.agg (xs.extract f.offset (f.offset+n)),?_,.agg _ _ (by simp;omega) λj x v hj h=>?_⟩
  ·simp only[execOp,ho,he,Instr.field,Xc,run_underlying hu,Xm,hf,part,asAgg,Xp,Vp hg,if_true,Qap hsz]
  rw[Array.getElem?_extract]at hj
  split at hj
  ·rw[JQ]at h
   split at h
   ·rw[Bk]at h;exact hc _ x v hj h
   cases h
  cases hj
 | false=>
  simp only[Qq]at h
  have D:f.offset<xs.size:=by rw[hs];exact(Xe.1 h).1
  refine⟨xs[f.offset],?_,hc _ _ v (Uj D) h⟩
  simp[execOp,ho,he,Instr.field,Xc,run_underlying hu,hf,part,asAgg,Vp hg,D]
def QmN : ∀(ms:L_ (O_ Nat)) (h:L_ V),(Dt ms h).length=h.length:=by
 intro ms
 induction ms with
 | nil=>intro h;cases h<;>rfl
 | cons m ms j=>intro h;cases h with
  | nil=>rfl
  | cons c h=>simp[Dt,j]
def XA.den1 {I:Nat->Prop}{w:World}{x:Value}{v:V}{m:O_ Nat}(h:XA I w x v):XA I w x (Vm.den1 m v):=by
 unfold Vm.den1
 split
 ·cases h;exact .sl0 _ _ _
 exact h
def QnY {m:O_ Nat}{v:V}(h:v.one=true):(Vm.den1 m v).one=true:=by
 unfold Vm.den1
 split
 ·rfl
 exact h
def R.denilA {b z:Nat}{rs:L_ (L_ V)}{ms:L_ (O_ Nat)}(hb:look σ.hp b=some (.arr z rs))(h:R C σ a w):R C (σ.set b (.arr z (rs.map (Dt ms)))) a w:=by
 obtain⟨φ,D⟩:=h
 have hden:∀(ms:L_ (O_ Nat)) (r:L_ V),(∀v∈r,v.one=true)->∀v∈Dt ms r,v.one=true:=by
  intro ms
  induction ms with
  | nil=>intro r D;cases r<;>exact D
  | cons m ms ih=>intro r D;cases r with
   | nil=>exact D
   | cons c r=>
    intro v hv
    rcases Yt.1 hv with rfl | hv
    ·exact QnY (D c XQ)
    exact ih r (λv hv=>D v (Yf _ hv)) v hv
 by_cases hne:rs=[]
 ·subst hne
  exact⟨φ,D.sayOb (ob':=.arr z []) hb (λ_ _ h=>h) (.inl rfl)⟩
 refine⟨φ,D.sayOb hb (λB hB hrep=>?_) (.inr λe=>hne e)⟩
 obtain⟨h1,h2,h3,cs,E,h4,h5,h6⟩:=hrep
 refine⟨h1,by simpa using h2,λr hr'=>?_,cs,E,h4,h5,λi r hi j v hj=>?_⟩
 ·obtain⟨r0,hr0,rfl⟩:=YN.1 hr'
  exact⟨by rw[QmN];exact(h3 r0 hr0).1,hden _ _ (h3 r0 hr0).2⟩
 rw[Ya]at hi
 obtain⟨r0,hi0,rfl⟩:=XT.1 hi
 obtain⟨m,v',hv',rfl⟩:=SC _ _ j v hj
 obtain⟨x,hx,hD⟩:=h6 i r0 hi0 j v' hv'
 exact⟨x,hx,hD.den1⟩
def AK.denilA {Q:Exit->St->Prop}{pt:Pt}{ks:L_ Fr}{b z:Nat}{rs us:L_ (L_ V)}(ms:L_ (O_ Nat))(j:look σ.hp b=some (.arr z rs))(D:rs.map (Dt ms)=us)(k:AK P C Q pt ks (σ.set b (.arr z us))):AK P C Q pt ks σ:=by
 subst D
 exact AK.weaken (λa w h=>R.denilA j h) k
def Qgr {α:Type}{f:α->L_ V}{n:Nat}{x:α}{r:L_ V}{ms:L_ (O_ Nat)}(h:Dt ms r=f x):(List.replicate n r).map (Dt ms)=(List.replicate n x).map f:=by simp[h]
end
def Qpj {p:Prop}{f:Code->Prop}{q:Nat}(h:(q==0)=true)(k:p):atJ p f (Su q):=by rw[eq_of_beq h];exact k
def Qqt {p:Prop}{f:Code->Prop}{q:Nat}(h:(q==2)=true)(k:f .ret):atJ p f (Su q):=by rw[eq_of_beq h];exact k
def rfs : Code->L_ (Array Tmp×Code×Code)
 | .seq x y=>rfs x++rfs y
 | .cond _ x y=>rfs x++rfs y
 | .block _ x=>rfs x
 | .loop x=>rfs x
 | .rangeFunc _ h a b=>[(h,a,b)]
 | _=>[]
def Qpk (f:Func)(k fn:Nat):Bm:=match f.body with
 | some c=>match (rfs c)[k]? with
  | some (h,a,b)=>⟨fn,h,a,b⟩
  | none=>⟨fn,#[],.skip,.skip⟩
 | none=>⟨fn,#[],.skip,.skip⟩
def yV (P:Program)(σ:St)(l d:Nat)(K:Bm)(vs:L_ V)(M N:L_ (Nat×Nat))(dead:L_ Nat)(ms:L_ Ev)(outs:L_ (Nat×Ob))(r:V):O_ (St×Prop):=
 bif Du σ M N dead outs&&BD (M.map Prod.fst)&&BD (N.map Prod.fst)then match NB (DO M) ms vs with
  | some us=>match Fy (DO M) (look σ.hp) M with
   | some h=>match Fy (DO N) (look outs) N with
    | some j=>match trV (DO N) r with
     | some D=>some ((σ.after dead j).put d D,PI P l K us h (Gives r outs))
     | none=>none
    | none=>none
   | none=>none
  | none=>none
 else none
section
variable {P:Program}{C:Xq}{σ σ':St}{o:Oper}
def Ql.yieldV {d b l:Nat}{K:Bm}{cs:L_ V}{q:Nat}{x:Operand}{j:Array Operand}{ts:Array TypeId}{M N:L_ (Nat×Nat)}{dead:L_ Nat}{outs:L_ (Nat×Ob)}{vs us:L_ V}{ms:L_ Ev}{r:V}{φ:Prop}(ho:o.op=.call { callee:=.value x,args:=j,argTypes:=ts })
  (hx:σ.opd x=some (.clo (.yield l) [] [])) (hlp:look σ.hp b=some (.lp l K cs q)) (hq:q=0) (ha:σ.opsV j.toList=some vs) (hps:vs.length=K.ps.size) (hd:o.dst=some d) (hn:Nat.ble (d+1) C.n=true) (hpg:C.pg P)
  (hu:Qgq cs K.ps.toList vs=us) (e:yV P σ l d K us M N dead ms outs r=some (σ',φ)) (hφ:φ):Ql P C o σ σ':=by
 unfold yV at e
 replace e:=XJ e;obtain⟨e1,e⟩:=e
 simp only[QH]at e1
 obtain⟨⟨h1,h2⟩,h3⟩:=e1
 have h2:=KT.1 h2
 have h3:=KT.1 h3
 have D:Ck M=true/\Ck N=true:=by
  simp only[Du,QH]at h1
  exact⟨h1.1.1.1,h1.1.1.2⟩
 have mM:∀a b,DO M a=some b->look M b=some a:=λa b h=>JB D.1 (Ac h) h2
 have mN:∀a b,DO N a=some b->look N b=some a:=λa b h=>JB D.2 (Ac h) h3
 split at e
 ·rename_i us hus
  split at e
  ·rename_i hsC hC
   split at e
   ·rename_i hsN hN
    split at e
    ·rename_i r' hr
     cases e
     subst hu
     exact Ql.yield ho hx hlp hq ha hps hd hn hpg h1 h2 (Ft mM hus) (WE mM hC) hφ (WE mN hN) (Nm mN hr)
    cases e
   cases e
  cases e
 cases e
end
section
variable {P:Program}{C:Xq}{φ:Nat->O_ QU}{σ:St}{a:Act}{w:World}{o:Oper}
def Qbl {j:Array Value}{z m i:Nat}(D:j.size=z)(h0:0<z)(h:i<m*z):(Builtin.zeroCells j m).toList[i]? = j[i % z]? := by
 have h2:i % z<j.size:=by rw[D];exact Nat.mod_lt _ h0
 simp only[Builtin.zeroCells,D,Array.toList_map,Array.toList_range,Ya,List.getElem?_range h,WU,Array.getElem!_eq_getD,Sp,Uj h2,Sq]
def RR.clearTail {b n l z e:Nat}{rs:L_ (L_ V)}{zs:L_ V}{zv:Value}{B:QU}(hr:RR C φ σ a w)(hb:look σ.hp b=some (.arr z rs))(hrn:rs.length=n)(hB:φ b=some B)(hzs:zv.cells.toList.map Aa=zs)(hzl:zs.length=z)(h0:0<z)(hzo:zs.all V.one=true)
  (hln:l<=n):∃w',(storeCells ⟨B.b,B.off+l*z,none⟩ (Builtin.zeroCells zv.cells (n-l)).toList).run P w=.ok () w'/\RR C φ (σ.set b (.arr z (rs.take l++List.replicate (n-l) zs))) a w':=by
 obtain⟨hz,hrl,hok,xs,E,e1,e2,e3⟩:=hr.block hB hb
 subst hz
 have hcs:zv.cells.size=B.z:=by rw[<-hzl,<-hzs];simp
 rw[XD]at hzo
 have D:(Builtin.zeroCells zv.cells (n-l)).toList.length=(n-l)*B.z:=by simp[Builtin.zeroCells,hcs]
 have hmul:l*B.z+(n-l)*B.z=n*B.z:=by rw[<-Dd];congr 1;omega
 have hnc:n*B.z<=B.cap*B.z:=JL _ (by omega)
 have hone:∀v∈(Builtin.zeroCells zv.cells (n-l)).toList,v.oneCell'=true:=by
  intro v hv
  obtain⟨i,hi⟩:=Md.1 hv
  have hil:i<(n-l)*B.z:=by rw[<-D];exact(Xe.1 hi).1
  rw[Qbl hcs h0 hil]at hi
  have hm:(Aa v)∈zs:=by rw[<-hzs];exact List.mem_map_of_mem (Qey.2 (Array.mem_of_getElem? hi))
  exact((QQ.dat (φ:=φ) (I:=λ_=>True) (w:=w) (XA.const v)).oneCell (hzo _ hm)).2
 generalize hZ:(Builtin.zeroCells zv.cells (n-l)).toList=Z at D hone
 have hrun:=run_storeCells_at P B.b (B.off+l*B.z) E Z 0 xs w e1 (by rw[D];omega) hone
 simp only[Mf]at hrun
 refine⟨_,hrun,?_⟩
 have hl1:(xs.toList.take (B.off+l*B.z)++Z++xs.toList.drop (B.off+l*B.z+Z.length)).length=xs.size:=by simp[D];omega
 refine hr.write hB rfl rfl rfl (by simp) (λk hk=>setRow_other w B.b k _ hk) ⟨rfl,by simp;omega,?_,_,E,setRow_heap w B.b xs _ E _ e1,?_,?_⟩
 ·intro r' hr'
  rcases YM.1 hr' with h | h
  ·exact hok r' (UI h)
  rw[Pk h];exact⟨hzl,hzo⟩
 ·simp only[List.size_toArray,hl1];exact e2
 have hI:∀k,Xf C φ w k->Xf C φ (w.setRow B.b (xs.toList.take (B.off+l*B.z)++Z++xs.toList.drop (B.off+l*B.z+Z.length)).toArray) k/\
   (w.setRow B.b (xs.toList.take (B.off+l*B.z)++Z++xs.toList.drop (B.off+l*B.z+Z.length)).toArray).heap[k]? = w.heap[k]?:=
  λk hk=>⟨⟨by simpa using hk.1,hk.2⟩,setRow_other w B.b k _ λe=>hk.2.2 b B hB (.inl e)⟩
 intro i r hi j v hj
 by_cases hil:i<l
 ·rw[YY (by simp;omega),JQ,if_pos hil]at hi
  obtain⟨y,hy,hD⟩:=e3 i r hi j v hj
  have hjz:j<B.z:=by rw[<-(hok r (XF hi)).1];exact(Xe.1 hj).1
  have hlt:i*B.z+j<l*B.z:=by
   have:(i+1)*B.z<=l*B.z:=JL _ hil
   rw[Dd]at this;omega
  refine⟨y,?_,hD.mono hI⟩
  have hyl:=(Cj.1 hy).1
  rw[Ih,WD,YY (by simp;omega),JQ,if_pos (by omega)];simpa using hy
 rw[Ko (by simp;omega)]at hi
 simp only[Wm,hrn,LG hln]at hi
 rw[List.getElem?_replicate]at hi
 split at hi
 ·rename_i hin
  cases hi
  have hjz:j<B.z:=by rw[<-hzl];exact(Xe.1 hj).1
  rw[<-hzs,Ya]at hj
  obtain⟨y,hy,rfl⟩:=XT.1 hj
  refine⟨y,?_,XA.const y⟩
  have hidx:(i-l)*B.z+j<(n-l)*B.z:=by
   have:(i-l+1)*B.z<=(n-l)*B.z:=JL _ hin
   rw[Dd]at this;omega
  have hsum:i*B.z=l*B.z+(i-l)*B.z:=by rw[<-Dd];congr 1;omega
  rw[Ih,WD,Ko (by simp;omega),YY (by simp[D];omega)]
  have:B.off+(i*B.z+j)-(xs.toList.take (B.off+l*B.z)).length=(i-l)*B.z+j:=by simp;omega
  rw[this,<-hZ,Qbl hcs h0 hidx]
  have hm:((i-l)*B.z+j) % B.z=j:=by rw[Nat.add_comm,Nat.add_mul_mod_self_right,Nat.mod_eq_of_lt hjz]
  rw[hm];simpa using hy
 cases hi
def AK.clearTail {Q:Exit->St->Prop}{ks:L_ Fr}{ops:Array Oper}{rest:L_ Oper}{o1 o2:Oper}{T d b n l z e by_:Nat}{x lo:Operand}{rs us:L_ (L_ V)}{zs:L_ V}(hg1:o1.guard=none)(hg2:o2.guard=none)
  (ho1:o1.op=.slice T x (some lo) none none) (hd1:o1.dst=some d) (ho2:o2.op=.call { callee:=.builtin .clear,args:=#[.tmp d],argTypes:=#[T] }) (hd2:o2.dst=none) (hn:Nat.ble (d+1) C.n=true)
  (hx:σ.opd x=some (.own b n)) (hb:look σ.hp b=some (.arr z rs)) (hrn:rs.length=n) (hT:Yb P T=some (e,z,by_)) (hz:XW P e=some zs) (hzl:zs.length=z) (h0:Nat.ble 1 z=true) (hzo:zs.all V.one=true) (hl:UR σ 0 (some lo) l) (hln:l<=n)
  (hu:rs.take l++List.replicate (n-l) zs=us) (k:AK P C Q (.o ops rest) ks ((σ.set b (.arr z us)).put d .J)):AK P C Q (.o ops (o1::o2::rest)) ks σ:=by
 intro a w ⟨φ,hr⟩
 subst hu
 have h0:=JR h0
 obtain⟨hu,i,D,hiz,_⟩:=KS hT
 obtain⟨i',zv,hi2,hz',hzs⟩:=Ce hz
 have key:∃x1 w',(execOp a.eval o1).run P w=.ok (.value x1) w/\(Builtin.clear_ #[T] o2.type #[x1]).run P w=.ok (.tuple #[]) w'/\RR C φ (σ.set b (.arr z (rs.take l++List.replicate (n-l) zs))) a w':=by
  rcases(hr.opd hx).own_inv with⟨he,rfl⟩|⟨B,hB,hcap,he⟩
  ·have l0:l=0:=by omega
   subst l0
   have:rs=[]:=FO.1 hrn
   subst this
   refine⟨.slice none 0 0,w,?_,?_,hr.sayOb (ob':=.arr z []) hb (λ_ _ h=>h) (.inl rfl)⟩
   ·have j:=Ik (P:=P) (b:=true) hr hl (.no (dflt:=0)) (by omega) (by omega:0<=0)
    simp only[WU,Sr]at j
    simp[execOp,ho1,he,Instr.sliceAt,Instr.slice,run_underlying hu,j,sizeOf,typeInfo,D]
   simp[Builtin.clear_,run_underlying hu]
  have j:=Ik (P:=P) (b:=true) hr hl (.no (dflt:=n)) hln (by omega:n<=B.cap)
  simp only[WU,Sr]at j
  by_cases hcl:B.cap=l
  ·have hln2:n-l=0:=by omega
   refine⟨.slice (some ⟨B.b,B.off,none⟩) 0 0,w,?_,?_,?_⟩
   ·simp only[execOp,ho1,he,Instr.sliceAt,Instr.slice,run_underlying hu,j,sizeOf,typeInfo,D,Xc,Xp,run_program,Xm,WU,Sr]
    simp[hcl];omega
   ·simp[Builtin.clear_,run_underlying hu]
   rw[hln2,List.replicate_zero,Qal,KE (by omega)]
   exact hr.sayOb hb (λ_ _ h=>h) (.inl rfl)
  obtain⟨w',hw,hr'⟩:=hr.clearTail (P:=P) (l:=l) (e:=e) hb hrn hB hzs hzl h0 hzo hln
  refine⟨.slice (some ⟨B.b,B.off+l*z,none⟩) (n-l) (B.cap-l),?_⟩
  have hex:(execOp a.eval o1).run P w=.ok (.value (.slice (some ⟨B.b,B.off+l*z,none⟩) (n-l) (B.cap-l))) w:=by
   simp only[execOp,ho1,he,Instr.sliceAt,Instr.slice,run_underlying hu,j,sizeOf,typeInfo,D,Xc,Xp,run_program,Xm,WU,Sr,if_neg hcl,hiz,Addr.add_lit]
  by_cases hnl:n-l=0
  ·refine⟨w,hex,?_,?_⟩
   ·rw[hnl];simp[Builtin.clear_,run_underlying hu]
   rw[hnl,List.replicate_zero,Qal,KE (by omega)]
   exact hr.sayOb hb (λ_ _ h=>h) (.inl rfl)
  refine⟨w',hex,?_,hr'⟩
  obtain⟨m,hm⟩:∃m,n-l=m+1:=⟨n-l-1,by omega⟩
  rw[hm]at hw ⊢
  rw[hi2]at D;cases D
  simp only[Builtin.clear_,Xc,run_underlying hu,Xm,Xp,zeroValue,typeInfo,run_program,hi2,hz',Ih,List.getElem?_cons_zero]
  simp[hw,hz']
 obtain⟨x1,w',hex,hcl,hr'⟩:=key
 have hput:∀t,(a.put (some d) x1).tmps[t]? = if t=d then(if d<a.tmps.size then some x1 else none)else a.tmps[t]? := λt=>by
  simp only[Act.put,Zf]
  by_cases e:d=t
  ·subst e;simp
  simp[e,Ne.symm e]
 have hev:(a.put (some d) x1).eval (.tmp d)=x1:=by
  have hlt:d<a.tmps.size:=by rw[hr.tmps];exact XM hn
  simp[Act.eval,Act.put,Sp,Zf,hlt]
 have hex2:(execOp (a.put (some d) x1).eval o2).run P w=.ok (.value (.tuple #[])) w':=by
  simp only[execOp,ho2,resolve,invoke,builtin,Xc,Xp,Xm,List.map_toArray,EJ,List.map_nil,hev,hcl]
 show wpListIn C.F 0 P ops (up C (unw P C Q ks)) (o1::o2::rest) a w
 simp only[wpListIn,Region.wanted,hg1,if_true]
 refine⟨λ_ _=>trivial,?_⟩
 rw[Qgd hex,Oper.uponIn_value,hd1]
 simp only[wpListIn,Region.wanted,hg2,if_true]
 refine⟨λ_ _=>trivial,?_⟩
 rw[Qgd hex2,Oper.uponIn_value,hd2]
 exact k _ _ ⟨φ,hr'.put (XM hn) (.dat (.J x1))⟩
def Qpl {α:Type}{f:α->L_ V}{e:L_ α}{l k:Nat}{zs:L_ V}{x:α}{ms:L_ (O_ Nat)}(h:∀y,Dt ms (f y)=f y)(j:Dt ms zs=f x):((e.map f).take l++List.replicate k zs).map (Dt ms)=(e.take l++List.replicate k x).map f:=by
 have D:Dt ms∘f=f:=funext h
 simp[List.map_take,j,D]
def QmO {α:Type}{b l:Nat}{e:L_ α}{x:α}(h:l<=e.length):V.own b e.length=V.own b (e.take l++List.replicate (e.length-l) x).length:=by
 congr 1;simp;omega
end
end Go.Vm
namespace Go.Vm
open Go Go.RowKit Go.Proofs Go.Sort Go.Shelf
def Io (l:L_ Int):L_ Int:=l.mergeSort λx y=>decide (x<=y)
def FA (x:Int):L_ V:=[V.i .i64 x]
def QiP (l:L_ Int):(Io l).length=l.length:=List.length_mergeSort ..
def QkW {P:Program}{ρ:Ren}(Ly:Lays.n189 P ρ)(zs:L_ Int)(hz:zs.length<4611686018427387904):
  QP P (ρ.f 189) [.own 617 zs.length] [(617,.arr 1 (zs.map FA))] (Gives (.tup []) [(617,.arr 1 ((Io zs).map FA))]):=by
 intro S φ w vals hi _
 have hs:=hi.size
 obtain⟨v0,hv0⟩:∃v0,vals=#[v0]:=by
  obtain⟨l⟩:=vals
  match l,hs with
  | [x],_=>exact⟨x,rfl⟩
 subst hv0
 have ha:=hi.args 0 v0 _ rfl rfl
 rcases ha.own_inv with⟨hx,hn⟩|⟨B,hB,hn,hx⟩
 ·have h0:zs=[]:=Qjy hn
  subst h0;subst hx
  refine(Any.slices_Sort_int_none Ly none 0 w).mono ?_
  rintro e w' ⟨rfl,rfl⟩
  refine⟨.tuple #[],.tup [],[(617,.arr 1 [])],φ,rfl,⟨rfl,λc ob h=>by simpa[Io] using h⟩,rfl,rfl,rfl,JE _,λ_ _ _=>rfl,hi.inj,λo B h=>?_,λo B k h D=>?_,λo B k h D hlt=>?_,⟨λo B _ h=>h,λo ob B _ _ h=>h⟩,.dat (.tup _ _ rfl λj x v h=>by simp at h),λo ob h=>?_⟩
  ·obtain⟨_,_,ob,hob⟩:=hi.dom o B h;exact⟨ob,hob⟩
  ·obtain⟨_,h2,_⟩:=hi.dom o B h
   exact⟨(h2 k D).1,λ_=>⟨o,B,h,D⟩⟩
  ·obtain⟨h1,_,_⟩:=hi.dom o B h;omega
  have hS:∀k,S k->SE S φ w' w' k/\w'.heap[k]? = w'.heap[k]? := λk D=>⟨⟨hi.lt k D,λ_=>D,λo B h hb=>((hi.dom o B h).2.1 k hb).2 D⟩,rfl⟩
  rcases hi.heap o ob h with⟨B,hB,hr⟩|hn
  ·exact .inl ⟨B,hB,hr.mono (λ_ _ h=>h) hS λ_ _=>rfl⟩
  exact .inr hn
 subst hx
 have hob:Jv φ S w B (.arr 1 (zs.map FA)):=by
  rcases hi.heap 617 _ (QA _ _ _)with⟨B',hB',hr⟩|⟨hn',_⟩
  ·rw[hB]at hB';cases hB';exact hr
  rw[hB]at hn';cases hn'
 obtain⟨hz1,hle,hok,cs,E,hb,hsz,hcell⟩:=hob
 have hlt:B.b<w.heap.size:=((hi.dom _ _ hB).2.1 _ B.self).1
 have hrow:∀(l:L_ Int) (i:Nat) (x:Int),l[i]? = some x->(l.map FA)[i]? = some (FA x):=λl i x h=>by rw[Ya,h];rfl
 have hc:∀(i:Nat) x,zs[i]? = some x->cs[B.off+i]? = some (.int .i64 x):=λi x h=>by
  obtain⟨y,hy,hd⟩:=hcell i _ (hrow _ i x h) 0 (.i .i64 x) rfl
  rw[show i*1+0=i by omega]at hy
  rw[hy];cases hd;rfl
 have hH:Holds (Value.int .i64) w B.b B.off zs.toArray:=λj hj=>by
  have hj':j<zs.length:=by simpa using hj
  have h1:=hc j zs[j] (Qy hj')
  have h2:zs.toArray[j]! = zs[j]:=by simp[hj']
  refine⟨?_,?_⟩
  ·rw[h2];simp[World.cell?,hb,h1]
  simp[World.frozen?,hb]
 refine(Any.slices_Sort_int Ly B.b B.off B.cap zs w hH hlt hz).mono ?_
 rintro e w' ⟨rfl,n,os,rfl⟩
 have hh:∀k,k<w.heap.size->(grow (putRow (Value.int .i64) (Sort.ahead w n) B.b B.off (Io zs).toArray) os).heap[k]? = (w.heap.modify B.b (onCells (putCells (Value.int .i64) B.off (Io zs).toArray)))[k]? := λk D=>by
  rw[heap_grow_old _ _ (by rw[size_putRow];exact D)];rfl
 have ho:∀k,k<w.heap.size->k≠B.b->(grow (putRow (Value.int .i64) (Sort.ahead w n) B.b B.off (Io zs).toArray) os).heap[k]? = w.heap[k]? := λk D hne=>by
  rw[hh k D,QjH,if_neg (Ne.symm hne)]
 have hsize:w.heap.size<=(grow (putRow (Value.int .i64) (Sort.ahead w n) B.b B.off (Io zs).toArray) os).heap.size:=by
  rw[size_grow,size_putRow];exact Nat.le_add_right _ _
 have hme:(grow (putRow (Value.int .i64) (Sort.ahead w n) B.b B.off (Io zs).toArray) os).heap[B.b]? = some (.cells (putCells (Value.int .i64) B.off (Io zs).toArray cs) E (0,0)):=by
  rw[hh _ hlt,QjH,if_pos rfl,hb];rfl
 have hall:∀o' B',φ o'=some B'->o'=617:=λo' B' h'=>by
  obtain⟨_,_,ob,hob⟩:=hi.dom o' B' h'
  by_cases e:617=o'
  ·exact e.symm
  rw[Qv _ _ e]at hob;cases hob
 refine⟨.tuple #[],.tup [],[(617,.arr 1 ((Io zs).map FA))],φ,rfl,⟨rfl,λc ob h=>h⟩,rfl,rfl,rfl,hsize,λk D hno=>?_,hi.inj,λo B h=>?_,λo B k h D=>?_,λo B k h D hl=>?_,⟨λo B _ h=>h,λo ob B _ _ h=>h⟩,.dat (.tup _ _ rfl λj x v h=>by simp at h),λo ob h=>?_⟩
 ·exact ho k D λe=>hno 617 B hB (e▸B.self)
 ·rw[hall o B h];exact⟨_,QA _ _ _⟩
 ·obtain⟨_,h2,_⟩:=hi.dom o B h
  exact⟨GK (h2 k D).1 hsize,λ_=>⟨o,B,h,D⟩⟩
 ·obtain⟨h1,_,_⟩:=hi.dom o B h;omega
 by_cases e:617=o
 ·subst e
  rw[QA]at h;cases h
  refine .inl ⟨B,hB,hz1,?_,?_,_,E,hme,?_,?_⟩
  ·rw[Ii,QiP];rw[Ii]at hle;exact hle
  ·intro r hr;obtain⟨x,_,rfl⟩:=YN.1 hr
   exact⟨rfl,λv hv=>by simp[FA]at hv;subst hv;rfl⟩
  ·simpa[putCells] using hsz
  intro i r hi' j v hj
  rw[Ya]at hi'
  obtain⟨x,hx,rfl⟩:=XT.1 hi'
  have hil:i<(Io zs).length:=(Xe.1 hx).1
  have hil':i<zs.length:=by rw[QiP]at hil;exact hil
  match j,hj with
  | 0,hj=>
   cases hj
   refine⟨.int .i64 x,?_,.i _ _⟩
   rw[show i*1+0=i by omega]
   have h1:=hc i zs[i] (Qy hil')
   have h2:(Io zs).toArray[i]! = x:=by
    have:=Xe.1 hx
    obtain⟨h3,h4⟩:=this
    simp[h3,h4]
   simp only[putCells,Array.getElem?_mapIdx,h1,WU]
   rw[if_pos ⟨by omega,by simp;omega⟩,show B.off+i-B.off=i by omega,h2]
  | j+1,hj=>simp[FA]at hj
 rw[Qv _ _ e]at h;cases h
def QhT (x:Int):L_ Int->L_ Int
 | []=>[x]
 | y::l=>bif decide (x<=y)then x::y::l else y::QhT x l
def Df : L_ Int->L_ Int
 | []=>[]
 | x::l=>QhT x (Df l)
def QiQ (x:Int)(l:L_ Int):(QhT x l).Perm (x::l):=by
 induction l with
 | nil=>exact .refl _
 | cons y l h=>
  rw[QhT]
  cases decide (x<=y)with
  | true=>exact .refl _
  | false=>exact(h.cons y).trans (.swap x y l)
def QoN {x:Int}{l:L_ Int}(h:l.Pairwise (·<=·)):(QhT x l).Pairwise (·<=·):=by
 induction l with
 | nil=>exact Qgc _ _
 | cons y l ih=>
  obtain⟨D,h2⟩:=RT.1 h
  rw[QhT]
  cases c:decide (x<=y)with
  | true=>
   have c:=Xn c
   refine RT.2 ⟨λz j=>?_,h⟩
   rcases Yt.1 j with rfl | j
   ·exact c
   have:=D z j;omega
  | false=>
   have c:=of_decide_eq_false c
   refine RT.2 ⟨λz j=>?_,ih h2⟩
   rcases Yt.1 ((QiQ x l).mem_iff.1 j)with rfl | j
   ·omega
   exact D z j
def QaL (l:L_ Int):(Df l).Perm l:=by
 induction l with
 | nil=>exact .refl _
 | cons x l h=>exact(QiQ x _).trans (h.cons x)
def Qer (l:L_ Int):(Df l).Pairwise (·<=·):=by
 induction l with
 | nil=>exact List.Pairwise.nil
 | cons x l h=>exact QoN h
def QaM (l:L_ Int):Df l=l.mergeSort λx y=>decide (x<=y):=by
 refine List.Perm.eq_of_pairwise (le:=λx y:Int=>x<=y) (λa b _ _ j D=>by omega) (Qer l) ?_ ((QaL l).trans (List.mergeSort_perm l _).symm)
 exact(List.pairwise_mergeSort (le:=λx y:Int=>decide (x<=y)) (λa b c j D=>by simp at *;omega) (λa b=>by simp;omega) l).imp λh=>by simpa using h
def DP (l:L_ Int):(Df l).length=l.length:=(QaL l).length_eq
def QkX {P:Program}{ρ:Ren}(j:Lays.n189 P ρ)(zs:L_ Int)(D:zs.length<4611686018427387904):
  QP P (ρ.f 189) [.own 617 zs.length] [(617,.arr 1 (zs.map FA))] (Gives (.tup []) [(617,.arr 1 ((Df zs).map FA))]):=by
 have h:=QkW j zs D
 rw[show Io zs=Df zs from(QaM zs).symm]at h
 exact h
def Dv (l:L_ Int):L_ Int:=Lib.compact l
def QkY {P:Program}{ρ:Ren}(Ly:Lays2.n20 P ρ)(zs:L_ Int)(hz:zs.length<4611686018427387904):
  QP P (ρ.f 20) [.own 617 zs.length] [(617,.arr 1 (zs.map FA))] (Gives (.own 617 (Dv zs).length) [(617,.arr 1 ((Dv zs).map FA))]):=by
 intro S φ w vals hi _
 have hs:=hi.size
 obtain⟨v0,hv0⟩:∃v0,vals=#[v0]:=by
  obtain⟨l⟩:=vals
  match l,hs with
  | [x],_=>exact⟨x,rfl⟩
 subst hv0
 have ha:=hi.args 0 v0 _ rfl rfl
 have hall:∀o' B',φ o'=some B'->o'=617:=λo' B' h'=>by
  obtain⟨_,_,ob,hob⟩:=hi.dom o' B' h'
  by_cases e:617=o'
  ·exact e.symm
  rw[Qv _ _ e]at hob;cases hob
 rcases ha.own_inv with⟨hx,hn⟩|⟨B,hB,hn,hx⟩
 ·have h0:zs=[]:=Qjy hn
  subst h0;subst hx
  have hc0:Dv []=[]:=by simp[Dv,Lib.compact,Lib.compactUpTo]
  rw[hc0]
  refine(Any.slices_Compact_int_empty Ly none 0 w).mono ?_
  rintro e w' ⟨rfl,rfl⟩
  refine⟨.slice none 0 0,.own 617 0,[(617,.arr 1 [])],φ,rfl,⟨rfl,λc ob h=>h⟩,rfl,rfl,rfl,JE _,λ_ _ _=>rfl,hi.inj,λo B h=>?_,λo B k h hk=>?_,λo B k h hk hlt=>?_,⟨λo B _ h=>h,λo ob B _ _ h=>h⟩,.own0 _,λo ob h=>?_⟩
  ·obtain⟨_,_,ob,hob⟩:=hi.dom o B h;exact⟨ob,hob⟩
  ·obtain⟨_,h2,_⟩:=hi.dom o B h
   exact⟨(h2 k hk).1,λ_=>⟨o,B,h,hk⟩⟩
  ·obtain⟨h1,_,_⟩:=hi.dom o B h;omega
  have hS:∀k,S k->SE S φ w' w' k/\w'.heap[k]? = w'.heap[k]? := λk hk=>⟨⟨hi.lt k hk,λ_=>hk,λo B h hb=>((hi.dom o B h).2.1 k hb).2 hk⟩,rfl⟩
  rcases hi.heap o ob h with⟨B,hB,hr⟩|hn
  ·exact .inl ⟨B,hB,hr.mono (λ_ _ h=>h) hS λ_ _=>rfl⟩
  exact .inr hn
 subst hx
 have hob:Jv φ S w B (.arr 1 (zs.map FA)):=by
  rcases hi.heap 617 _ (QA _ _ _)with⟨B',hB',hr⟩|⟨hn',_⟩
  ·rw[hB]at hB';cases hB';exact hr
  rw[hB]at hn';cases hn'
 obtain⟨hz1,hle,hok,cs,E,hb,hsz,hcell⟩:=hob
 have hlt:B.b<w.heap.size:=((hi.dom _ _ hB).2.1 _ B.self).1
 have hrow:∀(l:L_ Int) (i:Nat) (x:Int),l[i]? = some x->(l.map FA)[i]? = some (FA x):=λl i x h=>by rw[Ya,h];rfl
 have hc:∀(i:Nat) x,zs[i]? = some x->cs[B.off+i]? = some (.int .i64 x):=λi x h=>by
  obtain⟨y,hy,hd⟩:=hcell i _ (hrow _ i x h) 0 (.i .i64 x) rfl
  rw[show i*1+0=i by omega]at hy
  rw[hy];cases hd;rfl
 have hH:Holds (Value.int .i64) w B.b B.off zs.toArray:=λj hj=>by
  have hj':j<zs.length:=by simpa using hj
  have h1:=hc j zs[j] (Qy hj')
  have h2:zs.toArray[j]! = zs[j]:=by simp[hj']
  refine⟨?_,?_⟩
  ·rw[h2];simp[World.cell?,hb,h1]
  simp[World.frozen?,hb]
 have hcl:(Dv zs).length<=zs.length:=by
  unfold Dv Lib.compact Lib.compactUpTo
  rw[Ii]
  exact Jn (Qda _ _) (by simp)
 refine(Any.slices_Compact_int Ly B.b B.off B.cap zs w hH (by omega) hn).mono ?_
 rintro e w' ⟨rfl,n,rfl⟩
 change ∃x v hs' φ',Ending.returned (.slice (some ⟨B.b,B.off,none⟩) (Dv zs).length B.cap)=.returned x/\_/\Outs S φ w φ' (putRow (Value.int .i64) (Sort.ahead w n) B.b B.off (Dv zs++List.replicate (zs.length-(Dv zs).length) 0).toArray) x v hs'
 generalize hD:(Dv zs++List.replicate (zs.length-(Dv zs).length) 0).toArray=D
 have hDs:D.size=zs.length:=by subst hD;simp;omega
 have hh:∀k:Nat,(putRow (Value.int .i64) (Sort.ahead w n) B.b B.off D).heap[k]? = (w.heap.modify B.b (onCells (putCells (Value.int .i64) B.off D)))[k]? := λk=>rfl
 have ho:∀k:Nat,k≠B.b->(putRow (Value.int .i64) (Sort.ahead w n) B.b B.off D).heap[k]? = w.heap[k]? := λk hne=>by
  rw[hh k,QjH,if_neg (Ne.symm hne)]
 have hsize:w.heap.size<=(putRow (Value.int .i64) (Sort.ahead w n) B.b B.off D).heap.size:=by
  rw[size_putRow];exact JE _
 have hme:(putRow (Value.int .i64) (Sort.ahead w n) B.b B.off D).heap[B.b]? = some (.cells (putCells (Value.int .i64) B.off D cs) E (0,0)):=by
  rw[hh _,QjH,if_pos rfl,hb];rfl
 refine⟨_,.own 617 (Dv zs).length,[(617,.arr 1 ((Dv zs).map FA))],φ,rfl,⟨rfl,λc ob h=>h⟩,rfl,rfl,rfl,hsize,λk hk hno=>?_,hi.inj,λo B h=>?_,λo B k h hk=>?_,λo B k h hk hl=>?_,⟨λo B _ h=>h,λo ob B _ _ h=>h⟩,.own _ _ B hB (by omega),λo ob h=>?_⟩
 ·exact ho k λe=>hno 617 B hB (e▸B.self)
 ·rw[hall o B h];exact⟨_,QA _ _ _⟩
 ·obtain⟨_,h2,_⟩:=hi.dom o B h
  exact⟨GK (h2 k hk).1 hsize,λ_=>⟨o,B,h,hk⟩⟩
 ·obtain⟨h1,_,_⟩:=hi.dom o B h;omega
 by_cases e:617=o
 ·subst e
  rw[QA]at h;cases h
  refine .inl ⟨B,hB,hz1,?_,?_,_,E,hme,?_,?_⟩
  ·rw[Ii];omega
  ·intro r hr;obtain⟨x,_,rfl⟩:=YN.1 hr
   exact⟨rfl,λv hv=>by simp[FA]at hv;subst hv;rfl⟩
  ·simpa[putCells] using hsz
  intro i r hi' j v hj
  rw[Ya]at hi'
  obtain⟨x,hx,rfl⟩:=XT.1 hi'
  have hil:i<(Dv zs).length:=(Xe.1 hx).1
  have hil':i<zs.length:=by omega
  match j,hj with
  | 0,hj=>
   cases hj
   refine⟨.int .i64 x,?_,.i _ _⟩
   rw[show i*1+0=i by omega]
   have h1:=hc i zs[i] (Qy hil')
   have h2:D[i]! = x:=by
    subst hD
    rw[getElem!_pos _ i (by simp;omega)]
    obtain⟨h3,h4⟩:=Xe.1 hx
    simp[List.getElem_append,h3,h4]
   simp only[putCells,Array.getElem?_mapIdx,h1,WU]
   rw[if_pos ⟨by omega,by omega⟩,show B.off+i-B.off=i by omega,h2]
  | j+1,hj=>simp[FA]at hj
 rw[Qv _ _ e]at h;cases h
def Qj8 (s:ByteArray):Bool:=decide (s.size<4294967281)&&s.data.toList.all λb=>decide (b.toNat<128)
def Ae (s:ByteArray):L_ ByteArray:=(Lib.fields s.data.toList).map λl=>⟨l.toArray⟩
def Qjd {P:Program}{ρ:Ren}(Ly:Lays.n157 P ρ)(hi9:(P.info? (ρ.t 9)).map (fun i=>(i.zero,i.size,i.bytes))=some (some (.string ByteArray.empty),1,16))(hg:P.globalNamed "strings.asciiSpace" = some (ρ.g 0))(s:ByteArray)(hs:Qj8 s=true):
  QP P (ρ.f 157) [.s s] [] (Gives (.own 600 (Ae s).length) [(600,.arr 1 ((Ae s).map λx=>[V.s x]))]):=by
 intro S φ w vals hi hG
 have hsz:=hi.size
 obtain⟨v0,hv0⟩:∃v0,vals=#[v0]:=by
  obtain⟨l⟩:=vals
  match l,hsz with
  | [x],_=>exact⟨x,rfl⟩
 subst hv0
 have ha:=(hi.args 0 v0 _ rfl rfl).s_inv
 subst ha
 unfold Qj8 at hs
 rw[QH,decide_eq_true_iff,XD]at hs
 obtain⟨hs1,hs2⟩:=hs
 obtain⟨_,hl,hT⟩:=hG _ hg
 have hno:∀o B,φ o≠some B:=λo B h=>by obtain⟨_,_,ob,hob⟩:=hi.dom o B h;cases hob
 refine(Any.strings_Fields_core Ly hi9 s w hs1 (λj b hb=>by simpa using hs2 b (XF hb)) hT).mono ?_
 rintro e w' ⟨rfl,rfl⟩
 have hlen:(Lib.fields s.data.toList).length=(Ae s).length:=by unfold Ae;simp
 rw[hlen]
 generalize hO:Obj.cells ((Lib.fields s.data.toList).map λl=>Value.string ⟨l.toArray⟩).toArray (ρ.t 9)=O
 have hme:(w.alloc O).heap[w.heap.size]? = some O:=World.alloc_heap_new _ _
 have hold:∀k,k<w.heap.size->(w.alloc O).heap[k]? = w.heap[k]? := λk hk=>Below.heap_alloc w O k hk
 have hsize:(w.alloc O).heap.size=w.heap.size+1:=by simp
 have hφ:∀o B,(ext (λ_=>none) 600 ⟨w.heap.size,(Ae s).length,1,[],0⟩) o=some B->o=600/\B=⟨w.heap.size,(Ae s).length,1,[],0⟩:=λo B h=>by
  unfold ext at h
  split at h
  ·rename_i e;exact⟨e,(Option.some.inj h).symm⟩
  cases h
 have hhas:∀k,(⟨w.heap.size,(Ae s).length,1,[],0⟩:QU).has k->k=w.heap.size:=λk hk=>Sk hk
 refine⟨_,.own 600 (Ae s).length,[(600,.arr 1 ((Ae s).map λx=>[V.s x]))],ext (λ_=>none) 600 ⟨w.heap.size,(Ae s).length,1,[],0⟩,rfl,⟨rfl,λc ob h=>h⟩,rfl,rfl,rfl,by rw[hsize];omega,λk hk _=>hold k hk,λo o' B B' k h1 h2 _ _=>by rw[(hφ o B h1).1,(hφ o' B' h2).1],λo B h=>?_,λo B k h hk=>?_,λo B k h hk _=>?_,⟨λo B h1 h2=>by obtain⟨rfl,_⟩:=hφ o B h2;omega,λo ob B _ h2 h3=>absurd h3 (hno o B)⟩,.own _ _ _ (Xt _ _ _) (JE _),λo ob h=>?_⟩
 ·rw[(hφ o B h).1];exact⟨_,QA _ _ _⟩
 ·obtain⟨_,rfl⟩:=hφ o B h
  have:=hhas k hk
  rw[hsize];exact⟨by omega,λh=>by omega⟩
 ·obtain⟨_,rfl⟩:=hφ o B h
  have:=hhas k hk;omega
 by_cases e:600=o
 ·subst e
  rw[QA]at h;cases h
  refine .inl ⟨_,Xt _ _ _,rfl,by simp,λr hr=>?_,_,_,by rw[hme,<-hO],by rw[<-hlen];simp,λi r hi' j v hj=>?_⟩
  ·obtain⟨x,_,rfl⟩:=YN.1 hr
   exact⟨rfl,λv hv=>by simp at hv;subst hv;rfl⟩
  rw[Ya]at hi'
  obtain⟨x,hx,rfl⟩:=XT.1 hi'
  match j,hj with
  | 0,hj=>
   cases hj
   refine⟨.string x,?_,.s _⟩
   unfold Ae at hx
   rw[Ya]at hx
   obtain⟨l,hl',rfl⟩:=XT.1 hx
   simp[hl']
  | j+1,hj=>simp at hj
 rw[Qv _ _ e]at h;cases h
section
variable {P:Program}{C:Xq}{σ:St}{o:Oper}
def Mg (l:L_ Int):ByteArray:=l.foldl (λr n=>r.push (UInt8.ofNat n.toNat)) ByteArray.empty
def Ql.b2s {S T e d:Nat}{x:Operand}{l:L_ Int}{rows:L_ (L_ V)}(ho:o.op=.convert S T x)(hd:o.dst=some d)(hn:Nat.ble (d+1) C.n=true)(hx:σ.opd x=some (.sl 1 rows))(hr:rows=l.map λx=>[V.i .u8 x])
  (hS:P.underlying S=some (.slice e)) (he:Qch P e .u8=true) (hT:Qaq P T=true):Ql P C o σ (σ.put d (.s (Mg l))):=by
 subst hr
 refine Ql.same hd hn λφ a w hr=>⟨.string (Mg l),?_,.dat (.s _)⟩
 rcases(hr.opd hx).sl_inv with⟨a',cap,hv,h0⟩|⟨b,off,cap,hv,_,_,_,c,hc,D⟩
 ·have:l=[]:=by simpa using h0
  subst this
  simp only[execOp,ho,hv,Xc,run_convert_bytes_string w S T e a' 0 cap hS (QaK he) (SB hT)]
  cases a' with
  | none=>simp[Conv.bytesToString,Xp,Mg,ByteArray.empty,ByteArray.emptyWithCapacity]
  | some p=>
   rw[run_bytesToString w p 0 cap [] (by rw[run_loadCells w p 0 (λ_=>undef) (λj hj=>absurd hj (Nat.not_lt_zero _))];rfl)]
   simp[Xp,Mg]
 rw[Ii]at hv hc
 simp only[execOp,ho,hv,Xc,run_convert_bytes_string w S T e _ _ cap hS (QaK he) (SB hT)]
 rw[run_bytesToString w ⟨b,off,none⟩ l.length cap l ?_]
 ·simp[Xp,Mg]
 rw[run_loadCells w ⟨b,off,none⟩ l.length c (λj hj=>by rw[Addr.add_lit];exact hc j (by omega))]
 congr 1
 have:(List.range l.length).map c=l.map (Value.int .u8):=by
  apply List.ext_getElem?
  intro i
  rw[Ya,Ya]
  by_cases h:i<l.length
  ·rw[List.getElem?_range h,Qy h]
   have hd:=D i [V.i .u8 l[i]] (by rw[Ya,Qy h];rfl) 0 (.i .u8 l[i]) rfl
   rw[show i*1+0=i by omega]at hd
   have:=(QQ.dat (φ:=φ) hd).i_inv
   simp[this]
  rw[Vi (by simpa using h),Vi (by simpa using h)];rfl
 rw[this]
def Ql.storeNil {T b i off z zz:Nat}{x y:Operand}{rs h:L_ (L_ V)}{r:L_ V}(ho:o.op=.store T x y)(hd:o.dst=none)(hx:σ.opd x=some (.loc b i off))
  (D:look σ.hp b=some (.arr z rs)) (hi:rs[i]? = some r) (hy:σ.opd y=some (.lit (.slice none 0 0))) (hs:Av P T=some 1) (j:Nat.ble (off+1) z=true) (he:rs.set i (KA r off [.sl zz []])=h):Ql P C o σ (σ.set b (.arr z h)):=
 Ql.storeAV (v:=.sl zz []) ho hd hx D hi (λφ a w hr=>by rw[(hr.opd hy).lit_inv];exact .dat (.sl0 none 0 zz)) (.inl rfl) hs rfl rfl rfl j he
def Ql.max3 {d:Nat}{x y z:Operand}{k:IntKind}{m n q:Int}{ts:Array TypeId}(ho:o.op=.call { callee:=.builtin .max,args:=#[x,y,z],argTypes:=ts })(j:o.dst=some d)(D:Nat.ble (d+1) C.n=true)
  (hx:σ.opd x=some (.i k m)) (hy:σ.opd y=some (.i k n)) (hz:σ.opd z=some (.i k q)):Ql P C o σ (σ.put d (.i k (Vm.max2 (Vm.max2 m n) q))):=by
 refine Ql.same j D λφ a w h=>⟨.int k (Vm.max2 (Vm.max2 m n) q),?_,.dat (.i _ _)⟩
 simp[execOp,ho,(h.opd hx).i_inv,(h.opd hy).i_inv,(h.opd hz).i_inv,resolve,invoke,builtin,Builtin.max_,Builtin.max2,Vm.max2]
end
def Cl (w:World)(h:L_ Value)(vs:L_ V):Prop:=h.length=vs.length/\∀(j:Nat) c v,h[j]? = some c->vs[j]? = some v->XA (λk=>k<w.heap.size) w c v
def Cl.nil {w:World}:Cl w [] []:=⟨rfl,λj c v h _=>by simp at h⟩
def Cl.one {w:World}{c:Value}{v:V}(h:XA (λk=>k<w.heap.size) w c v):Cl w [c] [v]:=⟨rfl,λj c' v' D h2=>by
 match j with
 | 0=>simp at D h2;subst D;subst h2;exact h
 | j+1=>simp at D⟩
def Cl.append {w:World}{a b:L_ Value}{u v:L_ V}(h:Cl w a u)(h2:Cl w b v):Cl w (a++b) (u++v):=by
 refine⟨by simp[h.1,h2.1],λj c x hc D=>?_⟩
 by_cases hj:j<a.length
 ·rw[YY hj]at hc
  rw[YY (by rw[<-h.1];exact hj)]at D
  exact h.2 j c x hc D
 rw[Ko (by omega)]at hc
 rw[Ko (by rw[<-h.1];omega)]at D
 rw[<-h.1]at D
 exact h2.2 _ c x hc D
def Rd {H α:Type}(enc:TypeId×Value->H)(P:Program)(w:World)(N:Nat)(t:TypeId)(row:α->L_ V)(D:α->DataW H->Prop):Prop:=
 ∀(fuel:Nat) (h:L_ Value) (d:DataW H) (j:L_ MemPlace),fuel<=N->DataW.trod enc P w 0 (λ_=>true) true fuel t h=some (d,j)->∃x,D x d/\Cl w h (row x)
def Jj {H α:Type}(enc:TypeId×Value->H)(P:Program)(w:World)(N:Nat)(off tot:Nat)(fs:L_ (Nat×Nat))(row:α->L_ V)(j:α->L_ (DataW H)->Prop):Prop:=
 ∀(fuel:Nat) (h:L_ Value) (xs:L_ (DataW H×L_ MemPlace)),fuel<=N->h.length=off+tot->(fs.mapM λf=>DataW.trod enc P w 0 (λ_=>true) true fuel f.1 ((h.drop f.2).take (P.cellsOf f.1)))=some xs->
  ∃x,j x (xs.map Prod.fst)/\Cl w (h.drop off) (row x)
section
variable {H:Type}{enc:TypeId×Value->H}{P:Program}{w:World}{N:Nat}{t:TypeId}
def Rd.mono {α:Type}{M:Nat}{row:α->L_ V}{j:α->DataW H->Prop}(h:Rd enc P w N t row j)(hM:M<=N):Rd enc P w M t row j:=λfuel D d ps hf e=>h fuel D d ps (Jn hf hM) e
def Rd.zero {α:Type}{row:α->L_ V}{h:α->DataW H->Prop}:Rd enc P w 0 t row h:=λfuel j d ps D e=>by
 have:fuel=0:=by omega
 subst this
 simp[DataW.trod]at e
def Rd.map {α β:Type}{row:α->L_ V}{wf:α->DataW H->Prop}{j:β->L_ V}{D:β->DataW H->Prop}(g:α->β)(h:Rd enc P w N t row wf)(hr:∀x,row x=j (g x))(hw:∀x d,wf x d->D (g x) d):Rd enc P w N t j D:=λfuel cs d ps hf e=>by
 obtain⟨x,h1,h2⟩:=h fuel cs d ps hf e
 exact⟨g x,hw x d h1,by rw[<-hr];exact h2⟩
def Rd.int {k:IntKind}(ht:P.underlying t=some (.int k)):Rd enc P w N t (λn:Int=>[V.i k n]) (λn d=>(Lit.int k n).wf=true/\d=.lit (.int k n)):=by
 intro fuel cs d ps _ e
 cases fuel with
 | zero=>simp[DataW.trod]at e
 | succ fuel=>
  simp only[DataW.trod,ht]at e
  split at e
  all_goals first | (cases e;done) | (rename_i h;cases h;done) | skip
  rename_i h
  cases h
  split at e
  ·rename_i D
   obtain⟨rfl,j⟩:=D
   cases e
   exact⟨_,⟨j,rfl⟩,Cl.one (.i _ _)⟩
  cases e
def Rd.bool (j:P.underlying t=some .bool):Rd enc P w N t (λn:Bool=>[V.b n]) (λn d=>d=.lit (.bool n)):=by
 intro fuel D d ps _ e
 cases fuel with
 | zero=>simp[DataW.trod]at e
 | succ fuel=>
  simp only[DataW.trod,j]at e
  split at e
  all_goals first | (cases e;done) | (rename_i h;cases h;done) | skip
  cases e
  exact⟨_,rfl,Cl.one (.b _)⟩
def Rd.string (D:P.underlying t=some .string):Rd enc P w N t (λn:ByteArray=>[V.s n]) (λn d=>n.size<=maxLen/\d=.lit (.string n.data.toList)):=by
 intro fuel cs d ps _ e
 cases fuel with
 | zero=>simp[DataW.trod]at e
 | succ fuel=>
  simp only[DataW.trod,D]at e
  split at e
  all_goals first | (cases e;done) | (rename_i j;cases j;done) | skip
  split at e
  ·rename_i h
   cases e
   exact⟨_,⟨h,rfl⟩,Cl.one (.s _)⟩
  cases e
def Qpm {α:Type}{Q:Nat->α->Prop}:∀n:Nat,(∀i,i<n->∃x,Q i x)->∃l:L_ α,l.length=n/\∀i x,l[i]? = some x->Q i x:=by
 intro n
 induction n with
 | zero=>intro _;exact⟨[],rfl,λi x h=>by simp at h⟩
 | succ n ih=>
  intro h
  obtain⟨l,D,h2⟩:=ih λi hi=>h i (by omega)
  obtain⟨x,hx⟩:=h n (by omega)
  refine⟨l++[x],by simp[D],λi y j=>?_⟩
  by_cases hi:i<l.length
  ·rw[YY hi]at j;exact h2 i y j
  have:=(Xe.1 j).1
  simp at this
  have:i=l.length:=by omega
  subst this
  simp at j;subst j;rw[D];exact hx
def wfL {α:Type}(h:α->DataW H->Prop)(l:L_ α)(d:DataW H):Prop:=l.length<=maxLen/\((d=.nil/\l=[])\/∃es sp,d=.slice es sp/\es.length=l.length/\∀(i:Nat) x e,l[i]? = some x->es[i]? = some e->h x e)
def Rd.slice {α:Type}{e z:Nat}{row:α->L_ V}{wf:α->DataW H->Prop}(ht:P.underlying t=some (.slice e))(hz:P.cellsOf e=z)(hz0:0<z)(hrow:∀x,Bl z (row x))(he:Rd enc P w N e row wf):
  Rd enc P w N t (λl:L_ α=>[V.sl z (l.map row)]) (wfL wf):=by
 subst hz
 intro fuel cs d ps hN h
 cases fuel with
 | zero=>simp[DataW.trod]at h
 | succ fuel=>
  simp only[DataW.trod,ht]at h
  split at h
  all_goals first | (cases h;done) | (rename_i hq;cases hq;done) | skip
  ·cases h;exact⟨[],⟨LH _,.inl ⟨rfl,rfl⟩⟩,Cl.one (.sl0 _ _ _)⟩
  rename_i a len cap hq
  cases hq
  split at h
  ·rename_i hc
   obtain⟨_,hlc,hcm⟩:=hc
   obtain⟨D,hel,h⟩:=Nx.1 h
   obtain⟨rest,_,h⟩:=XT.1 h
   have hlen:D.length=len:=by simpa using mapM_some_length hel
   have hat:∀i,i<len->∃y rc,D[i]? = some y/\w.cells? 0 (a.add (i*P.cellsOf e)) (P.cellsOf e)=some rc/\DataW.trod enc P w 0 (λ_=>true) true fuel e rc=some y:=λi hi=>by
    have:=mapM_some_get hel i i (by simp[hi])
    obtain⟨y,hy⟩:∃y,D[i]? = some y:=⟨_,Qy (by omega)⟩
    rw[hy]at this
    obtain⟨rc,h1,h2⟩:=Nx.1 this
    exact⟨y,rc,hy,h1,h2⟩
   obtain⟨l,hl,hQ⟩:=Qpm (Q:=λi x=>∃y rc,D[i]? = some y/\w.cells? 0 (a.add (i*P.cellsOf e)) (P.cellsOf e)=some rc/\wf x y.1/\Cl w rc (row x)) len λi hi=>by
    obtain⟨y,rc,h1,h2,h3⟩:=hat i hi
    obtain⟨x,h4,h5⟩:=he fuel rc y.1 y.2 (by omega) h3
    exact⟨x,y,rc,h1,h2,h4,h5⟩
   have hd:d=.slice (D.map (·.1)) (rest.map (·.1)):=by cases h;rfl
   refine⟨l,⟨by omega,.inr ⟨_,_,hd,by simp[hl,hlen],λi x e' hx he'=>?_⟩⟩,Cl.one ?_⟩
   ·obtain⟨y,rc,h1,_,h3,_⟩:=hQ i x hx
    rw[Ya,h1]at he'
    cases he';exact h3
   by_cases h0:len=0
   ·have:l=[]:=FO.1 (by omega)
    subst this;subst h0;exact .sl0 _ _ _
   obtain⟨b,off,spot⟩:=a
   obtain⟨y0,rc0,_,h02,_⟩:=hat 0 (by omega)
   have hs:spot=none:=by
    obtain⟨_,h2,h3⟩:=World.cells?_some h02
    have h4:=h3 0 hz0
    obtain⟨c0,hc0⟩:∃c0,rc0[0]? = some c0:=⟨_,Qy (by omega)⟩
    rw[hc0]at h4
    simpa[Addr.add] using World.cell?_spot h4
   subst hs
   have hb:b<w.heap.size:=by
    have hb:=World.cells?_block h02 hz0
    rwa[WideShapes.add_plain]at hb
   have hcell:∀i,i<len->∀rc,w.cells? 0 ((⟨b,off,none⟩:Addr).add (i*P.cellsOf e)) (P.cellsOf e)=some rc->rc.length=P.cellsOf e/\∀j,j<P.cellsOf e->w.cell? ⟨b,off+(i*P.cellsOf e+j),none⟩=rc[j]? := λi hi rc h=>by
    obtain⟨_,h2,h3⟩:=World.cells?_some h
    refine⟨h2,λj hj=>?_⟩
    have:=h3 j hj
    rw[WideShapes.add_plain,WideShapes.add_plain]at this
    rw[<-RV];exact this
   refine .sl b off len cap (P.cellsOf e) (l.map row) (λj=>(w.cell? ⟨b,off+j,none⟩).getD undef) hb (by simp[hl]) hlc (λr hr=>by obtain⟨x,_,rfl⟩:=YN.1 hr;exact hrow x) (λj hj=>?_) (λi r hr j v hv=>?_)
   ·have hij:j / P.cellsOf e<len:=Nat.div_lt_of_lt_mul (by rw[Nat.mul_comm];exact hj)
    obtain⟨y,rc,_,h2,_⟩:=hat (j / P.cellsOf e) hij
    obtain⟨h3,h4⟩:=hcell _ hij rc h2
    have h5:=h4 (j % P.cellsOf e) (Nat.mod_lt _ hz0)
    rw[Nat.mul_comm (j / P.cellsOf e),Nat.div_add_mod]at h5
    rw[h5]
    have:j % P.cellsOf e<rc.length:=by rw[h3];exact Nat.mod_lt _ hz0
    rw[Qy this];rfl
   rw[Ya]at hr
   obtain⟨x,hx,rfl⟩:=XT.1 hr
   have hi:i<len:=by rw[<-hl];exact(Xe.1 hx).1
   obtain⟨y,rc,_,h2,_,h3⟩:=hQ i x hx
   obtain⟨h4,h5⟩:=hcell i hi rc h2
   have hj:j<P.cellsOf e:=by rw[<-(hrow x).1];exact(Xe.1 hv).1
   have h6:=h5 j hj
   obtain⟨c,hc⟩:∃c,rc[j]? = some c:=⟨_,Qy (by omega)⟩
   rw[hc]at h6
   show XA _ w ((w.cell? ⟨b,off+(i*P.cellsOf e+j),none⟩).getD undef) v
   rw[h6]
   exact h3.2 j c v hc hv
  cases h
def Jj.nil {off:Nat}:Jj enc P w N off 0 [] (λ_:Unit=>[]) (λ_ xs=>xs=[]):=λfuel j xs _ D h=>by
 simp at h
 subst h
 exact⟨(),rfl,by rw[Qf8 (by omega)];exact Cl.nil⟩
def Jj.cons {α β:Type}(t off z:Nat){tot:Nat}{fs:L_ (Nat×Nat)}{j:α->L_ V}{D:β->L_ V}{wf1:α->DataW H->Prop}{wf2:β->L_ (DataW H)->Prop}(hz:P.cellsOf t=z)
  (h1:Rd enc P w N t j wf1) (h2:Jj enc P w N (off+z) tot fs D wf2):Jj enc P w N off (z+tot) ((t,off)::fs) (λx:α×β=>j x.1++D x.2) (λx ds=>∃d r,ds=d::r/\wf1 x.1 d/\wf2 x.2 r):=by
 intro fuel cs xs hN hl h
 subst hz
 rw[List.mapM_cons]at h
 obtain⟨y,hy,h⟩:=Nx.1 h
 obtain⟨ys,hys,h⟩:=Nx.1 h
 cases h
 obtain⟨x1,a1,a2⟩:=h1 fuel _ y.1 y.2 hN hy
 obtain⟨x2,b1,b2⟩:=h2 fuel cs ys hN (by omega) hys
 refine⟨(x1,x2),⟨y.1,ys.map Prod.fst,rfl,a1,b1⟩,?_⟩
 have:cs.drop off=(cs.drop off).take (P.cellsOf t)++cs.drop (off+P.cellsOf t):=by
  rw[<-List.drop_drop,List.take_append_drop]
 rw[this]
 exact a2.append b2
def Qdj (P:Program)(t:TypeId)(fs:L_ (Nat×Nat))(tot:Nat):Bool:=match P.underlying t with
 | some (.struct h)=>(h.toList.map λf=>(f.type,f.offset))==fs&&P.cellsOf t==tot
 | _=>false
def Qes {t tot:Nat}{fs:L_ (Nat×Nat)}(h:Qdj P t fs tot=true):∃j,P.underlying t=some (.struct j)/\(j.toList.map λf=>(f.type,f.offset))=fs/\P.cellsOf t=tot:=by
 unfold Qdj at h
 split at h
 ·rename_i j D
  rw[QH,beq_iff_eq,beq_iff_eq]at h
  exact⟨j,D,h.1,h.2⟩
 cases h
def Rd.struct {α:Type}{fs:L_ (Nat×Nat)}{tot:Nat}{row:α->L_ V}{wf:α->L_ (DataW H)->Prop}(hB:Qdj P t fs tot=true)(hf:Jj enc P w N 0 tot fs row wf):
  Rd enc P w (N+1) t row (λx d=>∃ds,d=.agg ds/\wf x ds):=by
 obtain⟨gs,ht,j,hc⟩:=Qes hB
 intro fuel cs d ps hN h
 cases fuel with
 | zero=>simp[DataW.trod]at h
 | succ fuel=>
  simp only[DataW.trod,ht]at h
  split at h
  ·rename_i hl
   obtain⟨xs,D,h⟩:=XT.1 h
   cases h
   obtain⟨x,a1,a2⟩:=hf fuel cs xs (by omega) (by rw[hl,hc];omega) (by rw[<-j,List.mapM_map];exact D)
   exact⟨x,⟨_,rfl,a1⟩,a2⟩
  cases h
def Qj9 (P:Program)(t e n tot:Nat)(fs:L_ (Nat×Nat)):Bool:=match P.underlying t with
 | some (.array m e')=>m==n&&e'==e&&P.cellsOf t==tot&&((List.range n).map λi=>(e,i*P.cellsOf e))==fs
 | _=>false
def QlS {t e n tot:Nat}{fs:L_ (Nat×Nat)}(h:Qj9 P t e n tot fs=true):P.underlying t=some (.array n e)/\P.cellsOf t=tot/\((List.range n).map λi=>(e,i*P.cellsOf e))=fs:=by
 unfold Qj9 at h
 split at h
 ·rename_i m e' D
  simp only[QH,beq_iff_eq]at h
  obtain⟨⟨⟨rfl,rfl⟩,h⟩,j⟩:=h
  exact⟨D,h,j⟩
 cases h
def Rd.array {α:Type}{e n tot:Nat}{fs:L_ (Nat×Nat)}{row:α->L_ V}{wf:α->L_ (DataW H)->Prop}(hB:Qj9 P t e n tot fs=true)(hf:Jj enc P w N 0 tot fs row wf):
  Rd enc P w (N+1) t row (λx d=>∃ds,d=.agg ds/\wf x ds):=by
 obtain⟨ht,hc,j⟩:=QlS hB
 intro fuel cs d ps hN h
 cases fuel with
 | zero=>simp[DataW.trod]at h
 | succ fuel=>
  simp only[DataW.trod,ht]at h
  split at h
  ·rename_i hl
   obtain⟨xs,D,h⟩:=XT.1 h
   cases h
   obtain⟨x,a1,a2⟩:=hf fuel cs xs (by omega) (by rw[hl,hc];omega) (by rw[<-j,List.mapM_map];exact D)
   exact⟨x,⟨_,rfl,a1⟩,a2⟩
  cases h
def Eb (k:IntKind)(n:Int):Prop:=k.min<=n/\n<=k.max
def okS (s:ByteArray):Prop:=s.size<=maxLen
def Bh {α:Type}(ok:α->Prop)(l:L_ α):Prop:=l.length<=maxLen/\∀x∈l,ok x
def Qpn {k:IntKind}{n:Int}{d:DataW H}(h:(Lit.int k n).wf=true/\d=.lit (.int k n)):Eb k n:=by
 have:=h.1
 simp only[Lit.wf,QH,QC]at this
 exact this
def HF {α:Type}{ok:α->Prop}{l:L_ α}{d:DataW H}(h:wfL (λx _=>ok x) l d):Bh ok l:=by
 refine⟨h.1,λx hx=>?_⟩
 rcases h.2 with⟨_,rfl⟩|⟨es,sp,_,h3,h4⟩
 ·simp at hx
 obtain⟨i,D⟩:=Md.1 hx
 have j:i<es.length:=by rw[h3];exact(Xe.1 D).1
 exact h4 i x _ D (Qy j)
def Qka {w:World}{r:Reach}{base t tot:Nat}{v:Value}{fs:L_ (Nat×Nat)}(h:Qdj P t fs tot=true)(hv:Value.okWide P w r base t v):∃j,v=.agg j:=by
 obtain⟨gs,D,_⟩:=Qes h
 obtain⟨j,h2,_⟩:=WideShapes.okWide_struct D hv
 exact⟨j,h2⟩
def LL {z:Nat}{r:L_ V}(h:(Nat.beq r.length z&&r.all V.one)=true):Bl z r:=by
 rw[QH,XD]at h
 exact⟨Yu h.1,h.2⟩
end
section
variable {H:Type}{enc:TypeId×Value->H}{P:Program}
def QP.law {f:FuncId}{us:L_ V}{args:Array Value}{W:World}(h:QP P f us [] (Gives (.b true) []))(hG:PU P (λk=>k<W.heap.size) W)(hs:args.size=us.length)
  (ha:∀(j:Nat) x v,args[j]? = some x->us[j]? = some v->XA (λk=>k<W.heap.size) W x v):Calls P f args W λe w'=>e=.returned (.bool true)/\Below W.heap.size W w':=by
 refine(h (λk=>k<W.heap.size) (λ_=>none) W args ⟨λk D=>D,λ_ _ _ _ _ h=>(by cases h),λ_ _ h=>(by cases h),hs,λj x v h1 h2=>.dat (ha j x v h1 h2),λ_ _ h=>(by cases h)⟩ hG).mono ?_
 rintro e w' ⟨x,v,hs',φ',rfl,⟨rfl,_⟩,out⟩
 exact⟨by rw[out.rep.b_inv],out.os,out.tape,out.output,out.size,λk D=>out.kept k D λ_ _ h=>by cases h⟩
def Qbm (hl:laidOutB P=true){W W':World}(hb:Below W.heap.size W W'):∀{D:L_ TypeId} {vs:L_ Value} {ds:L_ (DataW H)} {ps:L_ MemPlace},(∀t∈D,P.readableRec t=true/\t<P.types.size)->
  DataW.TrodAll enc P W 0 (λ_=>true) true D vs ds ps->(∀x∈ps,x.block<W.heap.size)->DataW.TrodAll enc P W' 0 (λb=>decide (b<W.heap.size)) true D vs ds ps
 | [],[],[],_,_,h,_=>h
 | t::D,v::vs,d::ds,_,hr,⟨p,q,h1,h2,e⟩,j=>⟨p,q,Below.trod hl (hr t (XQ)).1 (hr t (XQ)).2 h1 hb (λx hx=>j x (by rw[e];exact Qdb _ hx)),
   Qbm hl hb (λt ht=>hr t (Yf _ ht)) h2 (λx hx=>j x (by rw[e];exact Qf9 _ hx)),e⟩
def QnZ {f:Func}{s:ChangeSpec}{j fresh:Bool}{W W':World}{args:Array Value}{ds:L_ (DataW H)}{D:L_ MemPlace}{tb:TypeId}(hl:laidOutB P=true)(hr:∀t∈f.params.toList,P.readableRec t=true/\t<P.types.size)
  (hW:DataW.Whole enc P f.params.toList s.vars j W args.toList ds [] D) (hv:s.vars=[]) (hb:Below W.heap.size W W') (hrt:f.resultTypes=#[tb]) (htb:P.underlying tb=some .bool)
  (hres:(s.fn H (ds++[])).results=[.lit (.bool true)]) (hargs:(s.fn H (ds++[])).args=ds) (hvars:(s.fn H (ds++[])).vars=[]):s.post enc P f j fresh false false W args (.bool true) W':=by
 have hW0:=hW
 obtain⟨p,q,hA,hV,rfl,_,_⟩:=hW
 have hlt:=hW0.lt
 rw[hv]at hV
 have hq:q=[]:=hV
 subst hq
 refine⟨ds,[],_,[],p,[],hW0,?_,?_,?_,?_,λh=>by cases h⟩
 ·rw[hres,hrt]
  exact⟨[],[],shut_bool htb true,rfl,rfl⟩
 ·rw[hargs]
  exact Qbm hl hb hr hA λx hx=>hlt x (Qdb _ hx)
 ·rw[hvars,hv];rfl
 exact World.keptBut_mono (λp hp=>hp.elim) (hb.frame (λ_=>False))
def Cl.arg1 {w:World}{v:Value}{x:V}(j:v.cells.toList=[v])(h:Cl w v.cells.toList [x]):XA (λk=>k<w.heap.size) w v x:=h.2 0 v x (by rw[j];rfl) rfl
def Cl.argS {w:World}{D:Array Value}{vs:L_ V}(h:Cl w (Value.agg D).cells.toList vs):XA (λk=>k<w.heap.size) w (.agg D) (.agg vs):=by
 refine .agg D vs (by simpa[Value.cells] using h.1) λj x v hx hv=>h.2 j x v (by simpa[Value.cells] using hx) hv
def Rd.open {α:Type}{w:World}{t:TypeId}{row:α->L_ V}{j:α->DataW H->Prop}{v:Value}{d:DataW H}{p:L_ MemPlace}(h:∀N,Rd enc P w N t row j)(D:DataW.Trod enc P w 0 (λ_=>true) true t v d p):∃x,j x d/\Cl w v.cells.toList (row x):=by
 obtain⟨n,hn⟩:=D
 exact h n n _ _ _ (JE _) hn
end
section
variable {P:Program}{C:Xq}{Q:Exit->St->Prop}{σ:St}{ks:L_ Fr}{o:Oper}
def QiR {σ':St}{φ φ':Prop}{d f:Nat}{vs us:L_ V}{M N:L_ (Nat×Nat)}{dead:L_ Nat}{ms:L_ Ev}{outs D:L_ (Nat×Ob)}{r:V}
  (hus:NB (DO M) ms vs=some us) (hC:Fy (DO M) (look σ.hp) M=some D)
  (e:cmV P σ φ d f vs M N dead ms outs r=some (σ',φ')):∃j r',Du σ M N dead outs=true/\(M.map Prod.fst).Nodup/\Vws σ.hp false false (Et M) (λa b=>look M b=some a) vs us/\Ld σ.hp false false (Et M) (λa b=>look M b=some a) σ.hp M D/\
   Ld [] false false [] (λc b=>look N b=some c) outs N j/\Vw [] false false [] (λc b=>look N b=some c) r r'/\σ'=(σ.after dead j).put d r':=by
 unfold cmV at e
 replace e:=XJ e;obtain⟨e1,e⟩:=e
 simp only[QH]at e1
 obtain⟨⟨h1,h2⟩,h3⟩:=e1
 have h2:=KT.1 h2
 have h3:=KT.1 h3
 have inj:Ck M=true/\Ck N=true:=by
  simp only[Du,QH]at h1
  exact⟨h1.1.1.1,h1.1.1.2⟩
 have mM:∀a b,DO M a=some b->look M b=some a:=λa b h=>JB inj.1 (Ac h) h2
 have mN:∀a b,DO N a=some b->look N b=some a:=λa b h=>JB inj.2 (Ac h) h3
 simp only[hus,hC]at e
 split at e
 ·rename_i j hN
  split at e
  ·rename_i r' hr
   cases e
   exact⟨j,r',h1,h2,Ft mM hus,WE mM hC,WE mN hN,Nm mN hr,rfl⟩
  cases e
 cases e
def AK.callE {ι:Type}[Inhabited ι]{Φ:ι->Prop}{d f n:Nat}{ops:Array Oper}{rest:L_ Oper}{vs us:L_ V}{hsC:L_ (Nat×Ob)}(M N:L_ (Nat×Nat))(dead:L_ Nat)(ms:L_ Ev)(outs:ι->L_ (Nat×Ob))(r:ι->V)(σ':ι->St)
  (hg:o.guard=none) (hCn:Jo P C n) (hE:YZ P C o σ f vs) (hd:o.dst=some d) (hn:Nat.ble (d+1) C.n=true)
  (hus:NB (DO M) ms vs=some us) (hC:Fy (DO M) (look σ.hp) M=some hsC)
  (hc:QP P f us hsC λv hs=>∃x,Φ x/\Gives (r x) (outs x) v hs)
  (e:∀x,∃φ',cmV P σ True d f vs M N dead ms (outs x) (r x)=some (σ' x,φ'))
  (k:∀x,Φ x->AK P C Q (.o ops rest) ks (σ' x)):AK P C Q (.o ops (o::rest)) ks σ:=by
 intro a w ⟨φ,hr⟩
 simp only[wpListIn,Region.wanted,hg,if_true]
 refine⟨λ_ _=>trivial,?_⟩
 obtain⟨vals,hex,h1,h2⟩:=hE φ a w hr
 rw[Qdd hex,Oper.uponIn_enter]
 obtain⟨_,e0⟩:=e default
 obtain⟨_,_,n1,n2,hv,j,_,_,_⟩:=QiR hus hC e0
 have hN0:=Names.of n1 n2
 refine⟨(λh=>by cases h),ZG ((hc _ _ w _ (Ins.of_vals hr h1 h2 hN0.injM hN0.param hv j) ((hr.glob hCn.g).mono λ_ h=>.inl h)).mono ?_)⟩
 rintro e' w' ⟨x,v,hs',φ',rfl,⟨i,hΦ,rfl,hso⟩,hout⟩
 obtain⟨_,ei⟩:=e i
 obtain⟨hsN,r',n1,n2,_,_,D,hr',hσ⟩:=QiR hus hC ei
 have hN:=Names.of n1 n2
 obtain⟨h3,h4⟩:=hr.after hN hout hso (λc s h=>by
  obtain⟨ob',e1⟩:=j.get.2 c s h
  obtain⟨s',ob,e2,e3,_⟩:=j.get.1 c ob' e1
  rw[h]at e2;cases e2;exact⟨ob,e3⟩) D
 refine k i hΦ _ _ ⟨Le φ M N dead φ',?_⟩
 rw[hd,hσ]
 exact h3.put (XM hn) (h4 hr')
def QiS {σ':St}{φ':Prop}{f:Nat}{vs us:L_ V}{M N:L_ (Nat×Nat)}{dead:L_ Nat}{ms:L_ Ev}{outs D:L_ (Nat×Ob)}{r:V}
  (hus:NB (DO M) ms vs=some us) (hC:Fy (DO M) (look σ.hp) M=some D)
  (e:rgV P σ f vs M N dead ms outs r=some (σ',φ')):∃j,Du σ M N dead outs=true/\(M.map Prod.fst).Nodup/\Vws σ.hp false false (Et M) (λa b=>look M b=some a) vs us/\Ld σ.hp false false (Et M) (λa b=>look M b=some a) σ.hp M D/\
   Ld [] false false [] (λc b=>look N b=some c) outs N j/\σ'=σ.after dead j:=by
 unfold rgV at e
 replace e:=XJ e;obtain⟨e1,e⟩:=e
 simp only[QH]at e1
 obtain⟨⟨h1,h2⟩,h3⟩:=e1
 have h2:=KT.1 h2
 have h3:=KT.1 h3
 have inj:Ck M=true/\Ck N=true:=by
  simp only[Du,QH]at h1
  exact⟨h1.1.1.1,h1.1.1.2⟩
 have mM:∀a b,DO M a=some b->look M b=some a:=λa b h=>JB inj.1 (Ac h) h2
 have mN:∀a b,DO N a=some b->look N b=some a:=λa b h=>JB inj.2 (Ac h) h3
 simp only[hus,hC]at e
 split at e
 ·rename_i j hN
  cases e
  exact⟨j,h1,h2,Ft mM hus,WE mM hC,WE mN hN,rfl⟩
 cases e
def AK.rangeFE {ι:Type}[Inhabited ι]{Φ:ι->Prop}{g:Operand}{ps:Array Tmp}{assign body:Code}{f n:Nat}{fs cps:L_ V}(b:Nat)(ts:L_ Nat)(M N:L_ (Nat×Nat))(dead:L_ Nat)(ms:L_ Ev)(K:Nat->Bm)(hCn:Jo P C n)(hrnd:C.rnd=none)(hK:∀fn,K fn=⟨fn,ps,assign,body⟩)
  (hg:σ.opd g=some (.clo (.func f) fs cps)) (he:Zi P f=true) (hb:look σ.hp b=none) (hb2:Nat.ble 617 b=false)
  (H:∀l fn,∃(outs:ι->L_ (Nat×Ob)) (r:ι->V) (σ2:ι->St) (us:L_ V) (hsC:L_ (Nat×Ob)),NB (DO M) ms (fs++(.clo (.yield l) [] []::cps))=some us/\Fy (DO M) (look (σ.set b (.lp l (K fn) (snap ts σ.fr n) 0)).hp) M=some hsC/\
   QP P f us hsC (λv hs=>∃x,Φ x/\Gives (r x) (outs x) v hs)/\∀x,∃φ2 cs2 q,rgV P (σ.set b (.lp l (K fn) (snap ts σ.fr n) 0)) f (fs++(.clo (.yield l) [] []::cps)) M N dead ms (outs x) (r x)=some (σ2 x,φ2)/\look (σ2 x).hp b=some (.lp l (K fn) cs2 q)/\q≠1/\
   (Φ x->atJ (AK P C Q (.x .normal) ks ((σ2 x).kill b)) (λc=>AK P C Q (.c c) ks ((σ2 x).kill b)) (Su q))):AK P C Q (.c (.rangeFunc g ps assign body)) ks σ:=by
 obtain rfl:K=λfn=>⟨fn,ps,assign,body⟩:=funext hK
 have hpg:=hCn.g
 replace hCn:=hCn.n
 subst hCn
 intro a w ⟨φ,hr⟩
 refine wpIn_rangeFunc λfn _=>?_
 obtain⟨outs,r,σ2,us,hsC,hus,hC,hcall,hx⟩:=H (w.heap.size+1) fn
 obtain⟨xs,ys,hev,e1,e2,e3,e4⟩:=(hr.opd hg).clo_inv
 have hb3:b<617:=Eu (by rw[hb2];rfl)
 refine⟨w.heap.size+1,[{ target:=.collected w.heap.size,args:=#[] }],(w.alloc (.deferred (some []))).alloc (.loop { state:=.ready,pending:=none,fn,tmps:=a.tmps,params:=ps,assign,body,defers:=w.heap.size }),{ target:=.fn (.func f) ys,args:=xs++#[.func (.yield (w.heap.size+1)) #[] #[]] },(w.alloc (.deferred (some []))).alloc (.loop { state:=.ready,pending:=none,fn,tmps:=a.tmps,params:=ps,assign,body,defers:=w.heap.size }),f,(xs++#[.func (.yield (w.heap.size+1)) #[] #[]])++ys,(w.alloc (.deferred (some []))).alloc (.loop { state:=.ready,pending:=none,fn,tmps:=a.tmps,params:=ps,assign,body,defers:=w.heap.size }),?_,?_,λ_ _=>trivial,?_,(λh=>by cases h),?_⟩
 ·rw[show C.F.round=none from hrnd];exact run_enterLoop_outer _ _ _ _ _
 ·have hy:a.eval (.const (.func (.yield (w.heap.size+1)) #[] #[]))=.func (.yield (w.heap.size+1)) #[] #[]:=rfl
  simp only[resolve,hev,Deferred.ofValue,Xp,List.map_toArray,EJ,List.map_nil,hy]
 ·exact BB he
 have hm:=hr.mark
 have hN0:=hm.none_of_look hb
 have hsz:(w.alloc (.deferred (some []))).heap.size=w.heap.size+1:=by simp
 have hR1:=hm.alloc (cap:=0) (z:=0) hb hb3 (ob:=.lp (w.heap.size+1) ⟨fn,ps,assign,body⟩ (snap ts σ.fr C.n) 0)
  (obj:=.loop { state:=.ready,pending:=none,fn,tmps:=a.tmps,params:=ps,assign,body,defers:=w.heap.size })
  ⟨a.tmps,w.heap.size,hsz,rfl,by rw[<-hsz];exact World.alloc_heap_new _ _,by rw[hr.tmps];simp[Vm.snap],λj x v hx hv=>(hm.snap j x v hx hv).mono (hm.mono_ext _ hN0) (hm.imm_alloc b 0 0 _ hN0)⟩
 rw[hsz]at hR1
 generalize hσ1:σ.set b (.lp (w.heap.size+1) ⟨fn,ps,assign,body⟩ (snap ts σ.fr C.n) 0)=σ1 at hR1 hx hC
 generalize hw1:(w.alloc (.deferred (some []))).alloc (.loop { state:=.ready,pending:=none,fn,tmps:=a.tmps,params:=ps,assign,body,defers:=w.heap.size })=w1 at hR1 ⊢
 have hval:(xs++#[.func (.yield (w.heap.size+1)) #[] #[]])++ys=(xs.toList++(.func (.yield (w.heap.size+1)) #[] #[]::ys.toList)).toArray:=by apply Array.ext';simp
 rw[hval]
 obtain⟨_,_,_,ed,_⟩:=hx default
 obtain⟨_,n1,n2,hv,hobs,_,_⟩:=QiS hus hC ed
 have hNm:=Names.of n1 n2
 have hfr1:σ1.fr=σ.fr:=by rw[<-hσ1];rfl
 refine ZG ((hcall _ _ w1 _ (Ins.of_vals (g:=false) (vs:=fs++(.clo (.yield (w.heap.size+1)) [] []::cps)) hR1 (by simp[e1,e2]) (λj x v hx hv=>?_) hNm.injM hNm.param hv hobs) ((hR1.glob hpg).mono λ_ h=>.inl h)).mono ?_)
 ·have up:=λ{x:Value} {v:V} (h:QQ φ (Xf C φ w) w x v)=>(h.mono (φ':=φ) (I':=Xf C φ (w.alloc (.deferred (some [])))) (w':=w.alloc (.deferred (some []))) (λ_ _ h=>h) λk hk=>⟨⟨by have:=hk.1;simp;omega,hk.2⟩,Below.heap_alloc w _ k hk.1⟩).mono (hm.mono_ext ⟨w.heap.size+1,0,0,[],0⟩ hN0) (by
   have:=hm.imm_alloc b 0 0 (.loop { state:=.ready,pending:=none,fn,tmps:=a.tmps,params:=ps,assign,body,defers:=w.heap.size }) hN0
   rw[hsz,hw1]at this;exact this)
  by_cases c1:j<fs.length
  ·rw[YY (by simpa using (by omega:j<xs.size))]at hx
   rw[YY c1]at hv
   exact up (e3 j x v (by simpa using hx) hv)
  rw[Ko (by simp;omega)]at hx
  rw[Ko (by omega)]at hv
  simp only[Array.length_toList]at hx
  rw[e1]at hx
  generalize j-fs.length=i at hx hv
  cases i with
  | zero=>
   simp at hx hv;subst hx;subst hv
   exact .clo (.yield _) #[] #[] [] [] rfl rfl (λj x v h=>by simp at h) (λj x v h=>by simp at h)
  | succ i=>simp only[Qam]at hx hv;exact up (e4 i x v (by simpa using hx) hv)
 rintro e w' ⟨x,v,hs',φ',rfl,⟨i,hΦ,rfl,hso⟩,hout⟩
 obtain⟨_,cs2,q,ei,hq,hq1,hk⟩:=hx i
 replace hk:=hk hΦ
 obtain⟨hsN,n1,n2,_,_,hback,hσ2⟩:=QiS hus hC ei
 have hNm:=Names.of n1 n2
 obtain⟨k3,_⟩:=hR1.after hNm hout hso (λc s h=>by
  obtain⟨ob',e1⟩:=hobs.get.2 c s h
  obtain⟨s',ob,e2,e3,_⟩:=hobs.get.1 c ob' e1
  rw[h]at e2;cases e2;exact⟨ob,e3⟩) hback
 rw[<-hσ2]at k3
 obtain⟨B,hB,tmps,D,f1,f2,f3,f4,f5⟩:=k3.lp hq
 have hst:lst q≠.busy:=by
  match q,hq1 with
  | 0,_=>exact(by intro h;cases h)
  | 1,h=>exact absurd rfl h
  | k+2,_=>exact(by intro h;cases h)
 refine⟨_,_,run_endLoop f3 hst,?_⟩
 have hkill:=k3.killTo hB (w':=w'.putObj (w.heap.size+1) (.loop { state:=.exhausted,pending:=Su q,fn,tmps,params:=ps,assign,body,defers:=D })) rfl rfl rfl World.putObj_size (λk hk=>World.putObj_heap_other (by rw[<-f1];exact hk))
 simp only
 cases hj:Su q with
 | none=>rw[hj]at hk hkill;exact hk _ _ ⟨_,hkill⟩
 | some c=>rw[hj]at hk hkill;exact hk _ _ ⟨_,hkill⟩
end
def QlT (n:Nat)(p:Int×Int):O_ (Nat⊕Empty):=some (.inl (n+1))
def QeD : ∀(l:L_ (Int×Int)) (n:Nat),WL QlT n l=some (.inl (n+l.length)):=by
 intro l
 induction l with
 | nil=>intro n;rfl
 | cons p l h=>intro n;simp only[WL,QlT,Qd,Sum.elim_inl];rw[h];simp[Nat.add_comm,Nat.add_left_comm]
def QmP (l:L_ (Int×Int))(n:Nat):CX QlT n l=some (.inl (n+l.length)):=Il.2 ⟨λj h=>by rw[QeD,QeD,h.length_eq],QeD l n⟩
def QlU {l m:L_ Int}(h:l.Perm m):Df l=Df m:=by
 rw[QaM,QaM]
 refine List.Perm.eq_of_pairwise (le:=λx y:Int=>x<=y) ?_ ?_ ?_ ?_
 ·intro a b _ _ j D;omega
 ·exact(List.pairwise_mergeSort (le:=λx y:Int=>decide (x<=y)) (λa b c j D=>by simp at *;omega) (λa b=>by simp;omega) l).imp λh=>by simpa using h
 ·exact(List.pairwise_mergeSort (le:=λx y:Int=>decide (x<=y)) (λa b c j D=>by simp at *;omega) (λa b=>by simp;omega) m).imp λh=>by simpa using h
 exact((List.mergeSort_perm l _).trans h).trans (List.mergeSort_perm m _).symm
def spZ : L_ Int:=(List.range 256).map λc=>if Lib.isSp (UInt8.ofNat c)then 1 else 0
def QkZ {P:Program}{W:World}(h:Lib.TabIs P W "strings.asciiSpace" .u8 spZ):PU P (fun k=>k<W.heap.size) W:=fun g hg=>by
 have hc:∀c:Nat,c<256->W.cell? ⟨g,c,none⟩=some (.int .u8 (if Lib.isSp (UInt8.ofNat c)then 1 else 0)):=λc hc=>by
  rw[h.cell hg c (by simp only[spZ,Ii,Vj];exact hc)]
  simp[spZ,List.getD,hc]
 have h0:g<W.heap.size:=by
  have:=hc 0 (by decide)
  apply Nat.lt_of_not_le
  intro hle
  have e:W.heap[g]? = none:=Array.getElem?_eq_none hle
  simp[World.cell?,e]at this
 exact⟨h0,h0,hc⟩
def Qkb {P:Program}{W:World}{l r:L_ (String×DataW Unit)}{g:Nat}{t e:TypeId}(n:Nat)(hl:l.drop n=("strings.asciiSpace",Lib.tabData .u8 spZ)::r)(hp:(l.all fun x=>x.2.handleName?.isNone)=true)
  (hg:P.globalNamed "strings.asciiSpace" = some g) (hty:(P.globals[g]?).map (·.type)=some t) (ht:P.underlying t=some (.array 256 e)) (he:P.underlying e=some (.int .u8)) (hce:P.cellsOf e=1) (hct:P.cellsOf t=256)
  (h:laidMetH P l W):PU P (λk=>k<W.heap.size) W:=by
 rw[MakeChecks.laidMetH_plain _ _ _ hp]at h
 have key:∀(n:Nat) (l:L_ (String×DataW Unit)),laidMet P l W->laidMet P (l.drop n) W:=by
  intro n
  induction n with
  | zero=>intro l h;exact h
  | succ n ih=>
   intro l h
   cases l with
   | nil=>exact h
   | cons x l=>exact ih l h.tail
 have h2:=key n l h
 rw[hl]at h2
 exact QkZ (Lib.tabIs_of_head hg hty ht he hce hct h2)
variable {H:Type}{P:Program}
def Sz (P:Program)(t:Nat)(d:DataW H):Prop:=∀n∈d.weights P t,n<=reachBytes
def Sz.all {ts:L_ TypeId}{D:L_ (DataW H)}(h:(DataW.weightsEach P ts D).all (·<=reachBytes)=true){j:Nat}{t:Nat}{d:DataW H}(ht:ts[j]? = some t)(hd:D[j]? = some d):Sz P t d:=λn hn=>by
 have:=XD.1 h n (DataW.weights_mem_each ht hd n hn)
 simpa using this
def Sz.field {t:Nat}{fs:Array Field}(hu:P.underlying t=some (.struct fs)){D:L_ (DataW H)}(h:Sz P t (.agg D)){j:Nat}{u:Nat}{d:DataW H}(ht:(fs.toList.map (·.type))[j]? = some u)(hd:D[j]? = some d):Sz P u d:=λn hn=>h n (by
 simp only[DataW.weights,hu]
 exact DataW.weights_mem_each ht hd n hn)
section
variable {κ α:Type}[DecidableEq κ]
def Qgs {π:Type}{L:L_ (Nat×π)}{h:Array Nat}{y:Nat}:YG L (h.push y)=(YG L h).filter λq=>!(q.1==y):=by
 unfold YG
 rw[List.filter_filter]
 apply List.filter_congr
 intro q _
 rw[Vf]
 simp[Array.mem_push]
 constructor
 ·rintro ⟨j,D⟩;exact⟨D,j⟩
 rintro ⟨j,D⟩;exact⟨D,j⟩
structure QaN (L L':List (Nat×(κ×α))) (seen:Array Nat):Prop where
 keys:L'.map (·.2.1)=L.map (·.2.1)
 left:YG L' seen=YG L seen
def QaN.refl {L:L_ (Nat×(κ×α))}{h:Array Nat}:QaN L L h:=⟨rfl,rfl⟩
def QaN.push {L D:L_ (Nat×(κ×α))}{j:Array Nat}(h:QaN L D j)(y:Nat):QaN L D (j.push y):=⟨h.keys,by rw[Qgs,Qgs,h.left]⟩
def QaN.nil {L D:L_ (Nat×(κ×α))}{j:Array Nat}(h:QaN L D j)(hq:YG D j=[]):YG L j=[]:=by rw[<-h.left];exact hq
end
section
variable {P:Program}{C:Xq}{σ:St}{o:Oper}{κ α:Type}[DecidableEq κ]
end
def AK.know {P:Program}{C:Xq}{Q:Exit->St->Prop}{σ:St}{ks:L_ Fr}{pt:Pt}{p:Prop}(h:∀a w,R C σ a w->p)(k:p->AK P C Q pt ks σ):AK P C Q pt ks σ:=
 AK.weakenE (ι:=PLift p) (f:=λ_=>σ) (λa w j=>⟨⟨h a w j⟩,j⟩) λi=>k i.down
def AK.openMapK {P:Program}{C:Xq}{Q:Exit->St->Prop}{σ:St}{ks:L_ Fr}{κ α:Type}[DecidableEq κ]{K:TypeId}{e:κ->V}{val:κ->Value}{f:α->V}{lt:L_ (κ×α)}{b:Nat}{pt:Pt}(hk:UJ P K e val)(hb:look σ.hp b=some (.map (QT e f lt)))
  (h:∀D j (L:L_ (Nat×(κ×α))),(L.map (·.1)).Nodup->(L.map (·.2.1)).Nodup->(L.map Prod.snd).Perm lt->AK P C Q pt ks (σ.set b (.mapX D j (Fz e f L) (QT e f lt)))):AK P C Q pt ks σ:=by
 refine AK.openMap hk hb λD j L h1 h2=>AK.know (p:=(lt.map Prod.fst).Nodup) (λa w ⟨φ,hr⟩=>?_) λhn=>h D j L h1 ?_ h2
 ·rcases hr.heap b _ (St.look_set_same _ _ _)with⟨B,hB,_,M,_,_,_,g3,_⟩|⟨_,e'⟩
  ·exact(RY hk.einj).1 g3
  exact e'.elim
 have:=(h2.map Prod.fst).nodup_iff.2 hn
 rw[RS]at this
 exact this
section
variable {P:Program}{C:Xq}{σ:St}{o:Oper}{A:Nat->Nat}
def RR.grow {φ:Nat->O_ QU}{a:Act}{w:World}(hr:RR C φ σ a w){b z T:Nat}{rs:L_ (L_ V)}{cs:L_ V}{ys:Array Value}(hb:look σ.hp b=some (.tbl A z rs))(hlt:b<617)(hz:cs.length=z)(h1:∀v∈cs,v.one=true)
  (hs:ys.size=z) (hc:∀(j:Nat) x v,ys[j]? = some x->cs[j]? = some v->XA (Xf C φ w) w x v):
  ∃φ',RR C φ' ((σ.kill b).set b (.tbl (λi=>if i=rs.length then w.heap.size else A i) z (rs++[cs]))) a (w.alloc (.cells ys T)):=by
 generalize hA':(λi=>if i=rs.length then w.heap.size else A i)=A'
 have hnew:A' rs.length=w.heap.size:=by rw[<-hA'];simp
 have hold:∀i,i<rs.length->A' i=A i:=λi hi=>by rw[<-hA'];simp[Nat.ne_of_lt hi]
 have hrng:(List.range (rs++[cs]).length).map A'=(List.range rs.length).map A++[w.heap.size]:=by
  rw[Ju,DX,Ij,List.range_succ,List.map_append,EJ,List.map_nil,hnew]
  congr 1
  exact List.map_congr_left λi hi=>hold i (Au.1 hi)
 have hok:(∀r∈rs,Bl z r)->∀r∈rs++[cs],Bl z r:=λh r hr=>by
  rcases YM.1 hr with hr | hr
  ·exact h r hr
  rw[Nw.1 hr];exact⟨hz,h1⟩
 have row:∀{I:Nat->Prop},(∀k,Xf C φ w k->I k)->∃cs2 E,(w.alloc (.cells ys T)).heap[w.heap.size]? = some (.cells cs2 E (0,0))/\cs2.size=z/\∀(j:Nat) v,cs[j]? = some v->∃x,cs2[j]? = some x/\XA I (w.alloc (.cells ys T)) x v:=λ{I} hI=>by
  refine⟨ys,T,heap_alloc_new w _,hs,λj v hv=>?_⟩
  have hj:j<ys.size:=by rw[hs,<-hz];exact(Xe.1 hv).1
  exact⟨ys[j],Uj hj,(hc j _ v (Uj hj) hv).mono λk D=>⟨hI k D,Below.heap_alloc w _ k D.1⟩⟩
 rcases hr.heap b _ hb with⟨B,hB,hrep⟩|⟨hn,h⟩
 ·let B':QU:=⟨B.b,B.cap,B.z,B.more++[w.heap.size],B.off⟩
  have hhas:∀k,B'.has k↔B.has k\/k=w.heap.size:=λk=>by simp[QU.has,B',or_assoc]
  have hI0:∀k,Xf C φ w k->Xf C (ext φ b B') (w.alloc (.cells ys T)) k:=λk D=>⟨by have:=D.1;simp;omega,D.2.1,λo B1 h1=>by
   by_cases e:o=b
   ·subst e;rw[Xt]at h1;cases h1
    rw[hhas];rintro (h2 | h2)
    ·exact D.2.2 _ B hB h2
    have:=D.1;omega
   rw[Xg _ e]at h1;exact D.2.2 o B1 h1⟩
  have:=hr.change hB (B':=B') ⟨rfl,rfl,rfl,rfl⟩ (λh=>absurd hlt (by omega)) (ob:=.tbl A' z (rs++[cs])) (w':=w.alloc (.cells ys T)) rfl rfl rfl (by simp) (λk D _=>Below.heap_alloc w _ k D)
   (λk D=>by
    rcases(hhas k).1 D with h2 | h2
    ·exact⟨by have:=(hr.lt b B k hB h2).1;simp;omega,.inl h2⟩
    ·exact⟨by simp;omega,.inr (by omega)⟩) (by
    refine⟨by rw[hrng,<-hrep.1];rfl,?_,hok hrep.2.2.1,λi q hi=>?_⟩
    ·show((B.b::B.more)++[w.heap.size]).Nodup
     rw[List.nodup_append]
     refine⟨hrep.2.1,by simp,λx hx y hy=>?_⟩
     rw[Nw.1 hy]
     have:=(hr.lt b B x hB (by unfold QU.has;exact Yt.1 hx)).1
     omega
    rcases Wv i rs.length with hlt' | hge
    ·rw[YY hlt']at hi
     obtain⟨cs2,E,g1,g2,g3⟩:=hrep.2.2.2 i q hi
     have hAi:A i<w.heap.size:=(hr.lt b B _ hB ((hrep.has _).2 ⟨i,hlt',rfl⟩)).1
     exact⟨cs2,E,by rw[hold i hlt',Below.heap_alloc w _ _ hAi];exact g1,g2,λj u hu=>let ⟨x',hx',hD⟩:=g3 j u hu;⟨x',hx',hD.mono λk D=>⟨hI0 k D,Below.heap_alloc w _ k D.1⟩⟩⟩
    have hi0:i=rs.length:=by have:=(Xe.1 hi).1;simp at this;omega
    subst hi0
    rw[Ko (JE _),Nat.sub_self]at hi
    simp at hi;subst hi
    rw[hnew];exact row hI0)
  have h2:=this.reset b (.tbl A' z (rs++[cs])) ⟨_,St.look_set_same _ _ _⟩ (.inl ⟨B',Xt _ _ _,this.block (Xt _ _ _) (St.look_set_same _ _ _)⟩)
  rw[St.set_kill]at h2
  exact⟨_,h2⟩
 replace h:rs=[]:=h
 subst h
 have D:=hr.kill b
 have hnone:look (σ.kill b).hp b=none:=by
  cases h:look (σ.kill b).hp b with
  | none=>rfl
  | some ob=>exact absurd rfl (KP _ _ _ h).1
 have hdel:EC φ b=φ:=by
  funext k
  by_cases e:k=b
  ·subst e;rw[Qau,hn]
  rw[DN e]
 have hI1:=D.imm_alloc b 0 0 (.cells ys T) (Qau _ _)
 refine⟨_,D.alloc (cap:=0) (z:=0) hnone hlt (ob:=.tbl A' z ([]++[cs])) (obj:=.cells ys T) ⟨?_,by simp,hok (by simp),λi q hi=>?_⟩⟩
 ·rw[hrng];rfl
 have hi0:i=0:=by have:=(Xe.1 hi).1;simp at this;omega
 subst hi0
 simp at hi;subst hi
 have:A' 0=w.heap.size:=hnew
 rw[this]
 exact row λk hk'=>(hI1 k (by rw[hdel];exact hk')).1
end
end Go.Vm
namespace Go.Vm
open Go Go.RowKit Go.Shelf Go.Lib Go.Proofs
noncomputable def Qqu (ρ:Ren)(h:String):Func:={ Body2.n22 ρ with name:=h }
noncomputable def ovF (ρ:Ren)(h:String):Func:={ Body2.n29 ρ with name:=h }
structure QqE (P:Program) (ρ:Ren) (n1 n2:String) (E z by_:Nat) (zv:Value):Prop where
 mixed:P.follows .mixedOrders=true
 f22:P.funcs[ρ.f 22]? = some (Qqu ρ n1)
 f29:P.funcs[ρ.f 29]? = some (ovF ρ n2)
 nm:(n2 == "runtime.NumGoroutine")=false
 nx:Extern.findNext (ovF ρ n2)=none
 fd:Extern.find (ovF ρ n2)=some (Extern.SlicesOverlaps.overlaps #[(ρ.t 24),(ρ.t 24)] #[(ρ.t 4)])
 t0:P.underlying (ρ.t 0)=some (TypeDesc.tuple #[])
 t3:P.underlying (ρ.t 3)=some (TypeDesc.int IntKind.i64)
 t4:P.underlying (ρ.t 4)=some (TypeDesc.bool)
 t24:P.underlying (ρ.t 24)=some (TypeDesc.slice E)
 zE:∀w,(Go.sizeOf E).run P w=.ok z w
 iE:(P.info? E).map (λi=>(i.zero,i.size,i.bytes))=some (some zv,z,by_)
 zc:zv.cells.size=z
 z0:0<z
 small:by_<=32768
variable {P:Program}{ρ:Ren}{n1 n2:String}{E z by_:Nat}{zv:Value}
def BH (I:Nat->Prop)(w:World)(z:Nat)(l:L_ Value)(rs:L_ (L_ V)):Prop:=l.length=rs.length*z/\(∀r∈rs,Bl z r)/\(∀u∈l,u.oneCell'=true)/\∀(i:Nat) r,rs[i]? = some r->∀(j:Nat) v,r[j]? = some v->∃u,l[i*z+j]? = some u/\XA I w u v
def BH.append {I:Nat->Prop}{w:World}{l m:L_ Value}{rs us:L_ (L_ V)}(h:BH I w z l rs)(k:BH I w z m us):BH I w z (l++m) (rs++us):=by
 obtain⟨j,h2,h3,h4⟩:=h
 obtain⟨D,k2,k3,k4⟩:=k
 obtain⟨g1,g2⟩:=Po (rest:=[]) (n:=rs.length) rfl j h2 k2 D h4 k4
 refine⟨by rw[Ju,Ju,j,D,Dd],g1,λu hu=>(YM.1 hu).elim (h3 u) (k3 u),by simpa using g2⟩
def BH.take {I:Nat->Prop}{w:World}{l:L_ Value}{rs:L_ (L_ V)}(h:BH I w z l rs){i:Nat}(hi:i<=rs.length):BH I w z (l.take (i*z)) (rs.take i):=by
 obtain⟨h1,h2,h3,h4⟩:=h
 have hle:i*z<=rs.length*z:=JL z hi
 refine⟨by rw[Wm,Wm,h1,LG hle,LG hi],λr hr=>h2 r (UI hr),λu hu=>h3 u (UI hu),λk r D j v hj=>?_⟩
 rw[JQ]at D
 split at D
 ·rename_i hki
  obtain⟨u,hu,hD⟩:=h4 k r D j v hj
  have hjz:j<z:=by have:=(Xe.1 hj).1;rwa[(h2 r (XF D)).1]at this
  have:(k+1)*z<=i*z:=JL z hki
  rw[Dd]at this
  exact⟨u,by rw[JQ,if_pos (by omega)];exact hu,hD⟩
 cases D
def BH.drop {I:Nat->Prop}{w:World}{l:L_ Value}{rs:L_ (L_ V)}(h:BH I w z l rs){i:Nat}(hi:i<=rs.length):BH I w z (l.drop (i*z)) (rs.drop i):=by
 obtain⟨h1,h2,h3,h4⟩:=h
 refine⟨by rw[Nu,Nu,h1,Nat.sub_mul],λr hr=>h2 r (Vk hr),λu D=>h3 u (Vk D),λk r hk j v hj=>?_⟩
 rw[Bk]at hk
 obtain⟨u,D,hD⟩:=h4 _ r hk j v hj
 exact⟨u,by rw[Bk,<-D];congr 1;rw[Dd];omega,hD⟩
def BH.mono {I I':Nat->Prop}{w w':World}(D:∀k,I k->I' k/\w'.heap[k]? = w.heap[k]?){l:L_ Value}{rs:L_ (L_ V)}(h:BH I w z l rs):BH I' w' z l rs:=
 ⟨h.1,h.2.1,h.2.2.1,λi r hi j v hj=>let ⟨u,hu,hD⟩:=h.2.2.2 i r hi j v hj;⟨u,hu,hD.mono D⟩⟩
section
variable {C:Xq}{σ:St}{o:Oper}
end
section
variable {P:Program}{C:Xq}{σ:St}{o:Oper}
def Ql.appSB {T U d e e' z z' by_ by' b n m:Nat}{x y:Operand}{rs us j:L_ (L_ V)}{zs:L_ V}(ho:o.op=.call { callee:=.builtin .append,args:=#[x,y],argTypes:=#[T,U] })
  (hd:o.dst=some d) (hn:Nat.ble (d+1) C.n=true) (hx:σ.opd x=some (.own b n)) (hb:look σ.hp b=some (.arr z rs)) (hb1:Nat.ble 617 b=false) (hnl:rs.length=n)
  (hT:Yb P T=some (e,z,by_)) (hU:Yb P U=some (e',z',by')) (hz:XW P e=some zs) (hzl:zs.length=z) (hz0:z≠0) (D:1<=by_) (h:decide ((n+us.length)*by_<=140737488355328)=true)
  (hy:σ.opd y=some (.sl z us)) (he:rs++us=j) (hm:n+us.length=m):Ql P C o σ (σ.app b z d m j):=
 Ql.appendB ho hd hn hx hb hb1 hnl hT hU hz hzl hz0 (Jn (Nat.le_mul_of_pos_right _ D) (Xn h)) (Xn h) (λφ a w hr=>(hr.opd hy).source_sl) he hm
def Qdk {α β:Type}{us:L_ α}{y:L_ β}{n b L:Nat}(h:decide ((n+y.length)*b<=L)=true)(e:us.length=y.length):decide ((n+us.length)*b<=L)=true:=by rw[e];exact h
end
end Go.Vm
