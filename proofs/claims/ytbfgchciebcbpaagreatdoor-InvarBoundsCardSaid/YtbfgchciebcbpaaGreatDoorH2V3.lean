/- A part of the proof; what it holds is told at each theorem. -/
import Derived.Test.YtbfgchciebcbpaaGreatDoorH2V2
import Derived.Laws.StructEq
import Derived.Laws.Cover3
import Derived.RangeFuncIn
import Derived.Shelf.Sort.Plain
import Derived.Shelf.Slices.In.SortNone
import Derived.Laws.BytesString
import Derived.Shelf.Slices.CompactI
import Derived.Shelf.Strings.Fields
import Derived.Carry
import Derived.ReadAgain
import Derived.OpenShut
import GoSem.ClaimJoined
import Derived.Lib.LaidTab
import Derived.LaidMore
import Derived.MakeChecks
import Derived.Stop.LaidErr
import Derived.Stop.Joined
import Derived.SizedLaws
import Derived.Handed
import Derived.Shelf.Spec.SlicesInsertGrow
set_option linter.unusedVariables false
set_option linter.unusedSimpArgs false
set_option linter.unusedSectionVars false
set_option linter.deprecated false
namespace Go.Vm
open Go Go.RowKit
section
variable {P:Program}{C:Ctx}{σ:St}{o:Oper}
def Qx4 (P:Program)(T:TypeId)(k:IntKind):Bool:=match P.underlying T with
 | some (.int q)=>ikB q k
 | _=>false
theorem QzL {T:TypeId}{k:IntKind}(h:Qx4 P T k=true):P.underlying T=some (.int k):=by
 unfold Qx4 at h
 split at h
 ·rename_i q hq;rw [hq,Qzv h]
 cases h
theorem Stp.convI {S T d:Nat}{x:Operand}{k k':IntKind}{n:Int}(ho:o.op=.convert S T x)(hd:o.dst=some d)(hn:Nat.ble (d+1) C.n=true)(hx:σ.opd x=some (.i k' n))(hs:Qx4 P S k'=true)(hT:Qx4 P T k=true):Stp P C o σ (σ.put d (.i k (k.wrap n))):=by
 refine Stp.same hd hn fun φ a w hr=>⟨.int k (k.wrap n),?_,.dat (.i _ _)⟩
 simp [execOp,ho,(hr.opd hx).i_inv,convert,run_underlying (QzL hs),run_underlying (QzL hT),Conv.intToInt]
def QBs (k:IntKind)(m n:Int):Int:=k.wrap (m*2 ^ (min n.toNat k.bits))
def Qem (k:IntKind)(m n:Int):Int:=m.fdiv (2 ^ (min n.toNat k.bits))
theorem Stp.shl {x y:Operand}{T U d:Nat}{k k':IntKind}{m n:Int}(ho:o.op=.binOp .shl T x y U)(hd:o.dst=some d)(hn:Nat.ble (d+1) C.n=true)(hx:σ.opd x=some (.i k m))(hy:σ.opd y=some (.i k' n))(h0:0≤n):Stp P C o σ (σ.put d (.i k (QBs k m n))):=by
 refine Stp.same hd hn fun φ a w hr=>⟨.int k _,?_,.dat (.i _ _)⟩
 have:¬n<0:=by omega
 simp [execOp,ho,(hr.opd hx).i_inv,(hr.opd hy).i_inv,eqGuard,binOp,Op.shift,this,QBs]
theorem Stp.shr {x y:Operand}{T U d:Nat}{k k':IntKind}{m n:Int}(ho:o.op=.binOp .shr T x y U)(hd:o.dst=some d)(hn:Nat.ble (d+1) C.n=true)(hx:σ.opd x=some (.i k m))(hy:σ.opd y=some (.i k' n))(h0:0≤n):Stp P C o σ (σ.put d (.i k (Qem k m n))):=by
 refine Stp.same hd hn fun φ a w hr=>⟨.int k _,?_,.dat (.i _ _)⟩
 have:¬n<0:=by omega
 simp [execOp,ho,(hr.opd hx).i_inv,(hr.opd hy).i_inv,eqGuard,binOp,Op.shift,this,Qem]
def QdW (k:IntKind)(m n:Int):Int:=k.wrap ((BitVec.ofInt k.bits m &&& BitVec.ofInt k.bits n).toNat:Int)
theorem Stp.andB {x y:Operand}{T U d:Nat}{k:IntKind}{m n:Int}(ho:o.op=.binOp .and T x y U)(hd:o.dst=some d)(hn:Nat.ble (d+1) C.n=true)(hx:σ.opd x=some (.i k m))(hy:σ.opd y=some (.i k n)):Stp P C o σ (σ.put d (.i k (QdW k m n))):=
 Stp.same hd hn fun φ a w hr=>⟨.int k _,by simp [execOp,ho,(hr.opd hx).i_inv,(hr.opd hy).i_inv,eqGuard,binOp,Op.intBits,QdW],.dat (.i _ _)⟩
def Qkx : List V→Option (List Value)
 | []=>some []
 | .i k n::r=>(Qkx r).map (.int k n::·)
 | .b x::r=>(Qkx r).map (.bool x::·)
 | .s x::r=>(Qkx r).map (.string x::·)
 | _=>none
theorem QCa {φ:Nat→Option Blk}{I:Nat→Prop}{w:World}:∀{cs:List V} {vs xs:List Value},Qkx cs=some vs→xs.length=cs.length→(∀(j:Nat) x v,xs[j]? = some x→cs[j]? = some v→Rep φ I w x v)→xs=vs:=by
 intro cs
 induction cs with
 | nil=>intro vs xs h hl _;cases h;exact Qzb hl
 | cons c cs ih=>
  intro vs xs h hl hr
  cases xs with
  | nil=>cases hl
  | cons x xs=>
   have h0:=hr 0 x c rfl rfl
   have hi:∀{us:List Value},Qkx cs=some us→xs=us:=fun e=>ih e (by simpa using hl) fun j x v a b=>hr (j+1) x v a b
   cases c with
   | i k n=>simp only [Qkx,Qaq]at h;obtain⟨us,e,rfl⟩:=h;rw [h0.i_inv,hi e]
   | b k=>simp only [Qkx,Qaq]at h;obtain⟨us,e,rfl⟩:=h;rw [h0.b_inv,hi e]
   | s k=>simp only [Qkx,Qaq]at h;obtain⟨us,e,rfl⟩:=h;rw [h0.s_inv,hi e]
   | _=>cases h
theorem Rep.aggVals {φ:Nat→Option Blk}{I:Nat→Prop}{w:World}{x:Value}{cs:List V}{vs:List Value}(h:Rep φ I w x (.agg cs))(hv:Qkx cs=some vs):x=.agg vs.toArray:=by
 obtain⟨xs,rfl,hs,hr⟩:=h.agg_inv
 have:=QCa (xs:=xs.toList) hv (by simpa using hs) fun j x v a b=>hr j x v (by simpa using a) b
 rw [←this]
def EqT (P:Program)(T:TypeId)(vs us:List Value)(r:Bool):Prop:=P.eqGuardType P.depth T=false∧∀w,(Op.equalIn 10000 T (.agg vs.toArray) (.agg us.toArray)).run P w=.ok r w
theorem Stp.eqAgg {x y:Operand}{T U d:Nat}{cs ds:List V}{vs us:List Value}{r:Bool}(ho:o.op=.binOp .eql T x y U)(hd:o.dst=some d)(hn:Nat.ble (d+1) C.n=true)(hx:σ.opd x=some (.agg cs))(hy:σ.opd y=some (.agg ds))(hv:Qkx cs=some vs)(hu:Qkx ds=some us)(he:EqT P T vs us r):
  Stp P C o σ (σ.put d (.b r)):=by
 refine Stp.same hd hn fun φ a w hr=>⟨.bool r,?_,.dat (.b _)⟩
 have h1:=(hr.opd hx).aggVals hv
 have h2:=(hr.opd hy).aggVals hu
 have h3:=he.2 w
 simp only [execOp,ho,h1,h2,eqGuard,Sem.run_bind,run_program,Result.andThen_ok,he.1]
 simp [binOp,Op.equal,Op.maxDepth,h3,he.1]
end
section
variable {P:Program}{C:Ctx}{σ:St}{Q:Exit→St→Prop}{ks:List Fr}{ops:Array Oper}{rest:List Oper}{o:Oper}
theorem AK.eqNil {x y:Operand}{T U d e z:Nat}{rows:List (List V)}(hg:o.guard=none)(ho:o.op=.binOp .eql T x y U)(hd:o.dst=some d)(hn:Nat.ble (d+1) C.n=true)(hx:σ.opd x=some (.sl z rows))(hy:σ.opd y=some (.lit (.slice none 0 0)))(hT:P.underlying T=some (.slice e))
  (h1:rows=[]→AK P C Q (.o ops rest) ks (σ.put d (.b true))) (h2:AK P C Q (.o ops rest) ks (σ.put d (.b false))):AK P C Q (.o ops (o::rest)) ks σ:=by
 intro a w hR
 obtain⟨φ,hr⟩:=hR
 have hyv:a.eval y=.slice none 0 0:=(hr.opd hy).lit_inv
 have run:∀p l c,a.eval x=.slice p l c→(execOp a.eval o).run P w=.ok (.value (.bool p.isNone)) w:=fun p l c e=>by
  simp [execOp,ho,e,hyv,eqGuard,binOp,run_equal_slice_nil w T _ p l c hT]
 have go:∀{v:Bool} {σ':St},(execOp a.eval o).run P w=.ok (.value (.bool v)) w→σ'=σ.put d (.b v)→AK P C Q (.o ops rest) ks σ'→wpListIn C.F 0 P ops (up C (unw P C Q ks)) (o::rest) a w:=fun {v σ'} e e2 k=>by
  have:Stp P C { o with op:=.move (.const (.bool v)) } σ (σ.put d (.b v)):=Stp.move rfl hd hn rfl
  simp only [wpListIn,Region.wanted,hg,if_true]
  refine⟨fun _ _=>trivial,?_⟩
  rw [QwT e,Oper.uponIn_value]
  subst e2
  refine k _ _ ⟨φ,?_⟩
  rw [hd]
  exact hr.put (Qah hn) (.dat (.b _))
 rcases(hr.opd hx).sl_inv with⟨p,c,he,h0⟩|⟨b,off,cap,he,_⟩
 ·cases p with
  | none=>exact go (run none 0 c he) rfl (h1 h0)
  | some p=>exact go (run (some p) 0 c he) rfl h2
 exact go (run _ _ _ he) rfl h2
end
section
variable {P:Program}{C:Ctx}{σ:St}{o:Oper}
theorem Stp.buildAny {T d e z by_ n:Nat}{parts:Array (Nat×Operand)}{zs vs:List V}{qs:List (Nat×V)}(ho:o.op=.buildSlice T n parts)(hd:o.dst=some d)(hn:Nat.ble (d+1) C.n=true)
  (hT:Qaz P T=some (e,z,by_)) (hz:Qar P e=some zs) (hzl:zs.length=z) (hz0:z≠0) (hbig:n*z≤16777216) (hq:σ.opds parts.toList=some qs) (hv:qs.all (fun q=>q.2.isV)=true)
  (hf:QfK (fun i=>some (i*z,z)) ((List.range (n*z)).map fun k=>zs.getD (k % z) .J) qs=some vs)
  (hfr:look σ.hp d=none):Stp P C o σ ((σ.set d (.var vs)).put d (.own d n)):=by
 refine Stp.val fun φ a w hr=>?_
 obtain⟨hu,i,hi,hi1,_⟩:=Qc0 hT
 obtain⟨i',zv,hi',hz',rfl⟩:=Qix hz
 rw [hi]at hi';cases hi'
 have hzs:zv.cells.size=i.size:=by rw [hi1];simpa using hzl
 have hf0:=hf
 rw [←hi1]at hf
 rw [←QsO zv.cells n i.size hzs (by omega)]at hf
 obtain⟨xs',h1,h2,h3⟩:=hr.fill hq hv hf
 refine⟨.slice (some ⟨w.heap.size,0,none⟩) n n,w.alloc (.cells xs' e),ext φ d ⟨w.heap.size,n,1,[],0⟩,?_,?_⟩
 ·have e2:(parts.map fun p=>(p.1,a.eval p.2)).toList=parts.toList.map fun p=>(p.1,a.eval p.2):=by simp
  have hb:¬(n*i.size > 2 ^ 24):=by rw [hi1];omega
  by_cases hn0:n*i.size=0
  ·have hn1:n=0:=by
    rw [hi1]at hn0
    rcases Nat.mul_eq_zero.1 hn0 with h | h
    ·exact h
    exact absurd h hz0
   subst hn1
   simp only [Qjc]at h1
   rw [QxV,Array.map_empty]at h1
   simp only [execOp,ho,Instr.buildSlice,Sem.run_bind,run_underlying hu,Result.andThen_ok,sizeOf,typeInfo,run_program,hi,Sem.run_pure,Qjc,if_true,e2,QxV,Array.map_empty]
   simp [h1,newRow]
  simp only [execOp,ho,Instr.buildSlice,Sem.run_bind,run_underlying hu,Result.andThen_ok,sizeOf,typeInfo,run_program,hi,Sem.run_pure,if_neg hb,if_neg hn0,zeroValue,hz',e2,h1,newRow,run_newObj]
  simp
 have hN:=hr.none_of_look hfr
 have hnew:=hr.alloc (cap:=n) (z:=1) hfr (C.slot hn) (ob:=.var vs) (obj:=.cells xs' e)
  ⟨xs',e,heap_alloc_new w _,h2,rfl,fun j x v hx hv'=>(h3 j x v hx hv').mono (hr.mono_ext _ hN) (hr.imm_alloc d n 1 _ hN)⟩
 rw [hd]
 refine hnew.put (Qah hn) ?_
 exact .own d n ⟨w.heap.size,n,1,[],0⟩ (Q4 _ _ _) (QbY _)
theorem Stp.idxV {T d e z by_ b n m:Nat}{x y:Operand}{cs:List V}{k:IntKind}{j:Int}(ho:o.op=.indexAddr T x y)(hd:o.dst=some d)(hn:Nat.ble (d+1) C.n=true)
  (hx:σ.opd x=some (.own b n)) (hy:σ.opd y=some (.i k j)) (hT:Qaz P T=some (e,z,by_)) (hb:look σ.hp b=some (.var cs)) (h0:(0≤j∧j<n)∧j.toNat*z=m):
  Stp P C o σ (σ.put d (.loc b 0 m)):=by
 refine Stp.same hd hn fun φ a w hr=>?_
 obtain⟨⟨h0,h1⟩,rfl⟩:=h0
 rcases(hr.opd hx).own_inv with⟨_,rfl⟩|⟨B,hB,hcap,he⟩
 ·omega
 refine⟨.pointer (some ⟨B.b,B.off+(0*B.z+j.toNat*z),none⟩),?_,.loc b 0 (j.toNat*z) B hB⟩
 simp only [execOp,ho,he,(hr.opd hy).i_inv,Sem.run_bind,QpP hT h0 h1,Result.andThen_ok,Sem.run_pure,Addr.add_lit,Qjc,Qnc]
end
section
variable {P:Program}{C:Ctx}{Q:Exit→St→Prop}
def Rnd (P:Program)(C:Ctx)(Q:Exit→St→Prop)(ks:List Fr)(c:Code):Nat→St→Prop
 | 0,_=>False
 | n+1,σ=>AK P C Q (.c c) (.cut (Rnd P C Q ks c n)::ks) σ
theorem AK.rnd {ks:List Fr}{c:Code}{n:Nat}{σ:St}(h:AK P C Q (.c c) (.cut (Rnd P C Q ks c n)::ks) σ):Rnd P C Q ks c (n+1) σ:=h
theorem AK.loopN {ks:List Fr}{c:Code}(n:Nat){σ:St}(h:Rnd P C Q ks c n σ):AK P C Q (.c (.loop c)) ks σ:=by
 have key:∀(n:Nat) (σ:St) (a:Act) (w:World),Rnd P C Q ks c n σ→R C σ a w→Code.roundsIn C.F 0 P c (up C (unw P C Q ks)) n a w:=by
  intro n
  induction n with
  | zero=>intro σ a w h;exact h.elim
  | succ n ih=>
   intro σ a w h hR
   rw [roundsIn_succ]
   refine wpIn_mono (h a w hR) ?_
   rintro e a' w' ⟨σ',h1,h2⟩
   cases e with
   | normal=>exact ih σ' a' w' h1 h2
   | _=>exact⟨σ',h1,h2⟩
 exact fun a w hR=>wpIn_loop_rounds n (key n σ a w h hR)
end
end Go.Vm
namespace Go.Vm
open Go Go.RowKit
def Qvp (cs:List V):List Tmp→List V→List V
 | p::ps,v::vs=>Qvp (cs.set p v) ps vs
 | _,_=>cs
theorem QCb {φ:Nat→Option Blk}{I:Nat→Prop}{w:World}:∀(ps:List Tmp) (ags:List Value) (vs:List V) (tm:Array Value) (cs:List V),ags.length=vs.length→tm.size=cs.length→
  (∀(j:Nat) x v,tm[j]? = some x→cs[j]? = some v→Rep φ I w x v)→(∀(j:Nat) x v,ags[j]? = some x→vs[j]? = some v→Rep φ I w x v)→
  ((ps.zip ags).foldl (fun tm p=>tm.setIfInBounds p.1 p.2) tm).size=(Qvp cs ps vs).length∧∀(j:Nat) x v,((ps.zip ags).foldl (fun tm p=>tm.setIfInBounds p.1 p.2) tm)[j]? = some x→(Qvp cs ps vs)[j]? = some v→Rep φ I w x v:=by
 intro ps
 induction ps with
 | nil=>intro ags vs tm cs _ h2 h3 _;cases vs<;>exact⟨h2,h3⟩
 | cons p ps ih=>
  intro ags vs tm cs h1 h2 h3 h4
  cases ags with
  | nil=>cases vs with
   | nil=>exact⟨h2,h3⟩
   | cons=>cases h1
  | cons y ags=>cases vs with
   | nil=>cases h1
   | cons v vs=>
    refine ih ags vs (tm.setIfInBounds p y) (cs.set p v) (by simpa using h1) (by simpa using h2) (fun j x u hx hu=>?_) fun j x u hx hu=>h4 (j+1) x u hx hu
    by_cases e:p=j
    ·subst e
     rw [Array.getElem?_setIfInBounds_self]at hx
     rw [List.getElem?_set_self']at hu
     split at hx
     ·rename_i hlt
      cases hx
      rw [QD (by omega)]at hu
      cases hu
      exact h4 0 _ _ rfl rfl
     cases hx
    rw [Qzk e]at hx
    rw [QqT e]at hu
    exact h3 j x u hx hu
def Qky (P:Program)(l:Nat)(K:QgT)(us:List V)(hs:List (Nat×Ob))(post:V→List (Nat×Ob)→Prop):Prop:=
 ∀(S:Nat→Prop) (φ:Nat→Option Blk) (w:World) (vals:Array Value),Ins S φ w vals us hs→QpS P S w→
  RoundIn Fence.wide 0 P l K.fn vals K.assign K.body w fun e w'=>∃x v hs' φ',e=.returned x∧post v hs'∧Outs S φ w φ' w' x v hs'
theorem QEz {C:Ctx}{n:Nat}{P:Program}{l:Nat}{f:FuncId}{tmps:Array Value}{assign body:Code}{w:World}{R:Ending→World→Prop}(h:RoundIn Fence.wide 0 P l f tmps assign body w R):RoundIn C.F n P l f tmps assign body w R:=
 ⟨trivial,fun c cs _=>h.2 c cs (room_wide _)⟩
section
variable {P:Program}{C:Ctx}{φ:Nat→Option Blk}{σ:St}{a:Act}{w:World}{o:Oper}
theorem RR.lp (h:RR C φ σ a w){b l:Nat}{K:QgT}{cs:List V}{q:Nat}(hb:look σ.hp b=some (.lp l K cs q)):∃B,φ b=some B∧QDN φ (Imm C φ w) w B l K cs q:=by
 rcases h.heap b _ hb with h | ⟨_,h⟩
 ·exact h
 exact h.elim
theorem RR.lpSet (h:RR C φ σ a w){b l:Nat}{K:QgT}{cs:List V}{q q':Nat}(hb:look σ.hp b=some (.lp l K cs q)):
  ∃r:Loop,w.heap[l]? = some (.loop r)∧r.state=lst q∧r.pending=jmp q∧RR C φ (σ.set b (.lp l K cs q')) a (w.putObj l (.loop { r with state:=lst q',pending:=jmp q' })):=by
 obtain⟨B,hB,tmps,D,rfl,h1,h2,h3,h4⟩:=h.lp hb
 refine⟨_,h2,rfl,rfl,?_⟩
 have hlt:=(h.lt b B B.b hB B.self).1
 have hk:∀k,k≠B.b→(w.putObj B.b (.loop { state:=lst q',pending:=jmp q',fn:=K.fn,tmps,params:=K.ps,assign:=K.assign,body:=K.body,defers:=D })).heap[k]? = w.heap[k]? := fun k hk=>World.putObj_heap_other hk
 refine h.write hB rfl rfl rfl World.putObj_size hk ⟨tmps,D,rfl,h1,World.putObj_heap_same hlt,h3,fun j x v hx hv=>?_⟩
 refine(h4 j x v hx hv).mono (fun _ _ h=>h) fun k hk'=>⟨⟨by rw [World.putObj_size];exact hk'.1,hk'.2⟩,hk k fun e=>hk'.2.2 b B hB (.inl e)⟩
theorem Stp.yield {d b l:Nat}{K:QgT}{cs:List V}{q:Nat}{x:Operand}{ags:Array Operand}{ts:Array TypeId}{M N:List (Nat×Nat)}{dead:List Nat}{hsC outs hsN:List (Nat×Ob)}{vs us:List V}{r r':V}(ho:o.op=.call { callee:=.value x,args:=ags,argTypes:=ts })
  (hx:σ.opd x=some (.clo (.yield l) [] [])) (hlp:look σ.hp b=some (.lp l K cs q)) (hq:q=0) (ha:σ.opsV ags.toList=some vs) (hps:vs.length=K.ps.size) (hd:o.dst=some d) (hn:Nat.ble (d+1) C.n=true) (hpg:C.pg P)
  (hnm:Qdf σ M N dead outs=true) (hnd:(M.map Prod.fst).Nodup)
  (hv:Vws σ.hp false false (Qfy M) (fun a b=>look M b=some a) (Qvp cs K.ps.toList vs) us) (hobs:QlN σ.hp false false (Qfy M) (fun a b=>look M b=some a) σ.hp M hsC)
  (hc:Qky P l K us hsC (Gives r outs)) (hback:QlN [] false false [] (fun c b=>look N b=some c) outs N hsN) (hr':Vw [] false false [] (fun c b=>look N b=some c) r r'):
  Stp P C o σ ((σ.after dead hsN).put d r'):=by
 intro a w ⟨φ,hr⟩ next Q hnext
 subst hq
 have hN:=Names.of hnm hnd
 refine⟨fun _ _=>trivial,?_⟩
 obtain⟨h1,h2⟩:=hr.opsV _ _ ha
 obtain⟨xs,ys,hev,e1,e2,_,_⟩:=(hr.opd hx).clo_inv
 have e1:xs=#[]:=Array.eq_empty_of_size_eq_zero e1
 have e2:ys=#[]:=Array.eq_empty_of_size_eq_zero e2
 subst e1;subst e2
 obtain⟨B,hB,tmps,D,e0,_,hh,hsz,hrep⟩:=hr.lp hlp
 have hl1:(ags.toList.map a.eval).length=vs.length:=by simpa using h1
 obtain⟨s1,s2⟩:=QCb (φ:=φ) (I:=Imm C φ w) (w:=w) K.ps.toList (ags.toList.map a.eval) vs tmps cs hl1 hsz hrep (fun j x v hx hv=>by
  simp only [Qan,Qaq]at hx
  obtain⟨y,hy,rfl⟩:=hx
  exact h2 j y v hy hv)
 have hsize:(ags.map a.eval).size=K.ps.size:=by rw [←hps,←hl1];simp
 have hfold:(K.ps.zip (ags.map a.eval)).foldl (fun tmps (t,a)=>tmps.setIfInBounds t a) tmps=(K.ps.toList.zip (ags.toList.map a.eval)).foldl (fun tm p=>tm.setIfInBounds p.1 p.2) tmps:=by
  rw [←Array.foldl_toList];simp
 have hex:(execOp a.eval o).run P w=.ok (.round l K.fn ((K.ps.toList.zip (ags.toList.map a.eval)).foldl (fun tm p=>tm.setIfInBounds p.1 p.2) tmps).toList.toArray K.assign K.body) w:=by
  simp only [execOp,ho,resolve,Sem.run_bind,hev,Deferred.ofValue,Sem.run_pure,Result.andThen_ok,invoke,Array.empty_append]
  rw [run_yield hh hsize,hfold]
 rw [Oper.semAt_eq _ _ _ (by rw [ho];intro c hc;cases hc),hex,Oper.uponIn_round]
 refine⟨(fun h=>by cases h),QEz ((hc _ _ w _ (Ins.of_vals hr (by simpa using s1) (fun j x v hx hv=>s2 j x v (by simpa using hx) hv) hN.injM hN.param hv hobs) ((hr.glob hpg).mono fun _ h=>.inl h)).mono ?_)⟩
 rintro e w' ⟨x,v,hs',φ',rfl,⟨rfl,hso⟩,hout⟩
 obtain⟨h3,h4⟩:=hr.after hN hout hso (fun c s h=>by
  obtain⟨ob',e1⟩:=hobs.get.2 c s h
  obtain⟨s',ob,e2,e3,_⟩:=hobs.get.1 c ob' e1
  rw [h]at e2;cases e2;exact⟨ob,e3⟩) hback
 refine hnext _ _ ⟨QlO φ M N dead φ',?_⟩
 rw [hd]
 exact h3.put (Qah hn) (h4 hr')
def QEA (b l:Nat)(K:QgT)(post:V→List (Nat×Ob)→Prop):Exit→St→Prop
 | .normal,σ=>∃cs,look σ.hp b=some (.lp l K cs 1)∧post (.b true) ((b,.lp l K cs 0)::σ.hp)
 | .ret,σ=>∃cs,look σ.hp b=some (.lp l K cs 1)∧post (.b false) ((b,.lp l K cs 2)::σ.hp)
 | .exit k,σ=>∃cs,look σ.hp b=some (.lp l K cs 1)∧post (.b false) ((b,.lp l K cs (k+3))::σ.hp)
 | _,_=>False
theorem Qky.walk {b l:Nat}{K:QgT}{us:List V}{hs:List (Nat×Ob)}{post:V→List (Nat×Ob)→Prop}(n:Nat)(hn:us.length=n)(hle:Nat.ble n 615=true)
  (h:∀C:Ctx,Qfi P C n→AK P C (fun e σ=>e=.normal∧∃cs,look σ.hp b=some (.lp l K cs 0)∧AK P C (QEA b l K post) (.c K.body) [] (σ.set b (.lp l K cs 1))) (.c K.assign) [] ⟨QrG 0 us,hs⟩):Qky P l K us hs post:=by
 intro S φ w vals hi hG
 let C:Ctx:=⟨w,S,fun k=>∃o B,φ o=some B∧B.has k,n,φ,Qb8 hle,some l⟩
 have hF:Fence.wide.inRound l=C.F:=rfl
 have hI:∀k,S k→Imm C φ w k∧w.heap[k]? = w.heap[k]? := fun k hk=>⟨⟨hi.lt k hk,fun _=>hk,fun o B hB e=>((hi.dom o B hB).2.1 k e).2 hk⟩,rfl⟩
 have hR:R C ⟨QrG 0 us,hs⟩ { tmps:=vals,defers:=[] } w:=by
  refine⟨φ,rfl,rfl,rfl,QbY _,fun _ _ _=>rfl,hi.inj,fun o B hB=>(hi.dom o B hB).2.2,fun o B k hB hk=>⟨((hi.dom o B hB).2.1 k hk).1,fun _=>⟨o,B,hB,hk⟩⟩,fun o B k hB hk hlt=>absurd (hi.dom o B hB).1 (by omega),⟨fun _ _ _ h=>h,fun _ _ _ _ _ h=>h⟩,
   by show vals.size=n;rw [hi.size,hn],⟨[],rfl,List.nodup_nil,fun _ h=>by cases h⟩,fun t v hv=>?_,fun o ob hob=>?_⟩
  ·obtain⟨_,h2⟩:=Qys us 0 t v hv
   rw [Nat.sub_zero]at h2
   have hlt:t<vals.size:=by rw [hi.size];exact(QQ.1 h2).1
   exact⟨vals[t],Qgc hlt,(hi.args t _ v (Qgc hlt) h2).mono (fun _ _ h=>h) hI⟩
  rcases hi.heap o ob hob with⟨B,hB,hr⟩|hn
  ·exact .inl ⟨B,hB,hr.mono (fun _ _ h=>h) hI fun _ _=>rfl⟩
  exact .inr hn
 refine roundIn_of_wpIn trivial ?_
 rw [hF]
 refine wpIn_mono (h C ⟨rfl,hG,fun g hg ⟨o,B,hB,hb⟩=>((hi.dom o B hB).2.1 g hb).2 (hG g hg).1⟩ _ _ hR) ?_
 rintro e a1 w1 ⟨σ1,⟨rfl,cs,hlp,hbody⟩,φ1,hr1⟩
 obtain⟨r,g1,g2,g3,g4⟩:=hr1.lpSet (q':=1) hlp
 refine⟨_,run_beginRound g1 g2,?_⟩
 have hbusy:({ r with state:=LoopState.busy }:Loop)={ r with state:=lst 1,pending:=jmp 1 }:=by
  rw [show jmp 1=r.pending from g3.symm];rfl
 rw [hbusy]
 refine wpIn_mono (hbody _ _ ⟨φ1,g4⟩) ?_
 rintro e a2 w2 ⟨σ2,hq,φ2,hr2⟩
 have fin:∀(jump:Option Code) (q:Nat) (cs2:List V),look σ2.hp b=some (.lp l K cs2 1)→jmp q=jump→(if jump.isNone then LoopState.ready else LoopState.done)=lst q→post (.b jump.isNone) ((b,.lp l K cs2 q)::σ2.hp)→
   ∃v w',(Instr.endRound l jump).run P w2=.ok v w'∧∃x v' hs' φ',Ending.returned v=.returned x∧post v' hs'∧Outs S φ w φ' w' x v' hs':=fun jump q cs2 hl2 hj hst hp=>by
  obtain⟨r2,k1,_,_,k4⟩:=hr2.lpSet (q':=q) hl2
  refine⟨_,_,run_endRound jump k1,.bool jump.isNone,.b jump.isNone,_,φ2,rfl,hp,?_⟩
  rw [hst,←hj]
  exact⟨k4.os,k4.tape,k4.output,k4.size,fun k hk hne=>k4.kept k hk (fun ⟨o,B,hB,e⟩=>hne o B hB e),k4.inj,k4.dom,
   fun o B k hB hk=>⟨(k4.lt o B k hB hk).1,fun hlt=>(k4.lt o B k hB hk).2 hlt⟩,k4.new,k4.stay,.dat (.b _),k4.heap⟩
 cases e with
 | normal=>obtain⟨cs2,hl2,hp⟩:=hq;exact fin none 0 cs2 hl2 rfl rfl hp
 | ret=>obtain⟨cs2,hl2,hp⟩:=hq;exact fin (some .ret) 2 cs2 hl2 rfl rfl hp
 | exit k=>obtain⟨cs2,hl2,hp⟩:=hq;exact fin (some (.exit k)) (k+3) cs2 hl2 rfl rfl hp
 | _=>exact hq.elim
theorem RR.mark (h:RR C φ σ a w):RR C φ σ { a with defers:={ target:=.collected w.heap.size,args:=#[] }::a.defers } (w.alloc (.deferred (some []))):=by
 have hs:=h.step (w':=w.alloc (.deferred (some []))) rfl rfl rfl (by simp) (fun k hk=>Below.heap_alloc w _ k hk)
 refine⟨hs.os,hs.tape,hs.output,hs.size,hs.kept,hs.inj,hs.dom,hs.lt,hs.new,hs.stay,hs.tmps,?_,hs.frame,hs.heap⟩
 obtain⟨Ds,h1,h2,h3⟩:=hs.defers
 obtain⟨Ds',h1',h2',h3'⟩:=h.defers
 refine⟨w.heap.size::Ds',by simp [h1'],Qdo.2 ⟨fun hm=>absurd (h3' _ hm).2.1.1 (by omega),h2'⟩,fun D hD=>?_⟩
 rcases Qaa.1 hD with rfl | hD
 ·refine⟨h.size,⟨by simp,fun hlt=>absurd h.size (by omega),fun o B hB hh=>absurd (h.lt o B _ hB hh).1 (by omega)⟩,World.alloc_heap_new w _⟩
 obtain⟨a1,a2,a3⟩:=h3' D hD
 exact⟨a1,⟨by have:=a2.1;simp;omega,a2.2⟩,(Below.heap_alloc w _ D a2.1).trans a3⟩
theorem RR.killTo (h:RR C φ σ a w){b:Nat}{B:Blk}(hB:φ b=some B){w':World}(ho:w'.os=w.os)(ht:w'.tape=w.tape)(hu:w'.output=w.output)(hs:w'.heap.size=w.heap.size)(hk:∀k,k≠B.b→w'.heap[k]? = w.heap[k]?):RR C (del φ b) (σ.kill b) a w':=by
 have hI:∀k,Imm C φ w k→Imm C (del φ b) w' k∧w'.heap[k]? = w.heap[k]? := fun k hk'=>⟨⟨by rw [hs];exact hk'.1,hk'.2.1,fun o B' hB'=>hk'.2.2 o B' (Qb9 hB').2⟩,hk k fun e=>hk'.2.2 b B hB (.inl e)⟩
 have hφ:∀o B,o≠b→φ o=some B→del φ b o=some B:=fun o B ho hB=>by rw [Qef ho];exact hB
 refine⟨ho.trans h.os,ht.trans h.tape,hu.trans h.output,by rw [hs];exact h.size,fun k h1 h2=>(hk k fun e=>h2 ((h.lt b B k hB (.inl e)).2 h1)).trans (h.kept k h1 h2),fun o o' B B' k h1 h2=>h.inj o o' B B' k (Qb9 h1).2 (Qb9 h2).2,?_,fun o B k hB=>by rw [hs];exact h.lt o B k (Qb9 hB).2,fun o B k hB=>h.new o B k (Qb9 hB).2,
  ⟨fun o B h1 hB=>h.stay.1 o B h1 (Qb9 hB).2,fun o ob B h1 ho hB=>by obtain⟨hne,ob',h2,_⟩:=QcX _ _ _ ho;rw [Qef hne];exact h.stay.2 o ob' B h1 h2 hB⟩,h.tmps,h.defers.mono hI,?_,?_⟩
 ·intro o B hB
  obtain⟨h1,h2⟩:=Qb9 hB
  obtain⟨ob,hob⟩:=h.dom o B h2
  exact⟨_,Qge _ _ _ h1 hob⟩
 ·intro t v hv
  obtain⟨v',hv',rfl⟩:=Qon _ _ _ hv
  obtain⟨x,hx,hr⟩:=h.frame t v' hv'
  exact⟨x,hx,hr.kill hφ hI⟩
 intro o ob hob
 obtain⟨hne,ob',hob',rfl⟩:=QcX _ _ _ hob
 rcases h.heap o ob' hob' with⟨B',hB',hr⟩|⟨h1,hz⟩
 ·exact .inl ⟨B',hφ o B' hne hB',hr.kill hφ hI fun k hk'=>hk k fun e=>hne (h.inj o b B' B k hB' hB hk' (.inl e))⟩
 exact .inr ⟨by rw [Qef hne];exact h1,hz.kill⟩
def snap (ts:List Nat)(fr:List (Nat×V))(n:Nat):List V:=(List.range n).map fun t=>bif Q8 ts t then(match look fr t with
 | some v=>v
 | none=>.J)else .J
theorem RR.snap {ts:List Nat}(h:RR C φ σ a w):∀(j:Nat) x v,a.tmps[j]? = some x→(snap ts σ.fr C.n)[j]? = some v→Rep φ (Imm C φ w) w x v:=by
 intro j x v hx hv
 simp only [Vm.snap,Qan,Qaq]at hv
 obtain⟨t,ht,rfl⟩:=hv
 obtain⟨_,rfl⟩:=QQ.1 ht
 simp only [Qvf]at *
 cases hm:Q8 ts j with
 | false=>exact .dat (.J _)
 | true=>
 simp only [cond_true]
 split
 ·rename_i v hv
  obtain⟨y,hy,hr⟩:=h.frame _ _ hv
  rw [hx]at hy;cases hy;exact hr
 exact .dat (.J _)
def rgV (P:Program)(σ:St)(f:Nat)(vs:List V)(M N:List (Nat×Nat))(dead:List Nat)(ms:List Qgh)(outs:List (Nat×Ob))(r:V):Option (St×Prop):=
 bif Qdf σ M N dead outs&&Qgf (M.map Prod.fst)&&Qgf (N.map Prod.fst)then match Qms (bkM M) ms vs with
  | some us=>match Qic (bkM M) (look σ.hp) M with
   | some hsC=>match Qic (bkM N) (look outs) N with
    | some hsN=>some (σ.after dead hsN,Qd P f us hsC (Gives r outs))
    | none=>none
   | none=>none
  | none=>none
 else none
def atJ (p:Prop)(f:Code→Prop):Option Code→Prop
 | none=>p
 | some c=>f c
theorem AK.rangeF {Q:Exit→St→Prop}{ks:List Fr}{g:Operand}{ps:Array Tmp}{assign body:Code}{f n:Nat}{fs cps:List V}(b:Nat)(ts:List Nat)(M N:List (Nat×Nat))(dead:List Nat)(ms:List Qgh)(K:Nat→QgT)(hCn:Qfi P C n)(hrnd:C.rnd=none)(hK:∀fn,K fn=⟨fn,ps,assign,body⟩)
  (hg:σ.opd g=some (.clo (.func f) fs cps)) (he:QrH P f=true) (hb:look σ.hp b=none) (hb2:Nat.ble 615 b=false)
  (H:∀l fn,∃outs r σ2 φ2 cs2 q,rgV P (σ.set b (.lp l (K fn) (snap ts σ.fr n) 0)) f (fs++(.clo (.yield l) [] []::cps)) M N dead ms outs r=some (σ2,φ2)∧φ2∧look σ2.hp b=some (.lp l (K fn) cs2 q)∧q≠1∧
   atJ (AK P C Q (.x .normal) ks (σ2.kill b)) (fun c=>AK P C Q (.c c) ks (σ2.kill b)) (jmp q)):AK P C Q (.c (.rangeFunc g ps assign body)) ks σ:=by
 obtain rfl:K=fun fn=>⟨fn,ps,assign,body⟩:=funext hK
 have hpg:=hCn.g
 replace hCn:=hCn.n
 subst hCn
 intro a w ⟨φ,hr⟩
 refine wpIn_rangeFunc fun fn _=>?_
 obtain⟨outs,r,σ2,φ2,cs2,q,e,hφ2,hq,hq1,hk⟩:=H (w.heap.size+1) fn
 obtain⟨xs,ys,hev,e1,e2,e3,e4⟩:=(hr.opd hg).clo_inv
 have hb3:b<615:=Qfz (by rw [hb2];rfl)
 refine⟨w.heap.size+1,[{ target:=.collected w.heap.size,args:=#[] }],(w.alloc (.deferred (some []))).alloc (.loop { state:=.ready,pending:=none,fn,tmps:=a.tmps,params:=ps,assign,body,defers:=w.heap.size }),{ target:=.fn (.func f) ys,args:=xs++#[.func (.yield (w.heap.size+1)) #[] #[]] },(w.alloc (.deferred (some []))).alloc (.loop { state:=.ready,pending:=none,fn,tmps:=a.tmps,params:=ps,assign,body,defers:=w.heap.size }),f,(xs++#[.func (.yield (w.heap.size+1)) #[] #[]])++ys,(w.alloc (.deferred (some []))).alloc (.loop { state:=.ready,pending:=none,fn,tmps:=a.tmps,params:=ps,assign,body,defers:=w.heap.size }),?_,?_,fun _ _=>trivial,?_,(fun h=>by cases h),?_⟩
 ·rw [show C.F.round=none from hrnd];exact run_enterLoop_outer _ _ _ _ _
 ·have hy:a.eval (.const (.func (.yield (w.heap.size+1)) #[] #[]))=.func (.yield (w.heap.size+1)) #[] #[]:=rfl
  simp only [resolve,hev,Deferred.ofValue,Sem.run_pure,List.map_toArray,QaZ,List.map_nil,hy]
 ·exact Qib he
 have hm:=hr.mark
 have hN0:=hm.none_of_look hb
 have hsz:(w.alloc (.deferred (some []))).heap.size=w.heap.size+1:=by simp
 have hR1:=hm.alloc (cap:=0) (z:=0) hb hb3 (ob:=.lp (w.heap.size+1) ⟨fn,ps,assign,body⟩ (snap ts σ.fr C.n) 0)
  (obj:=.loop { state:=.ready,pending:=none,fn,tmps:=a.tmps,params:=ps,assign,body,defers:=w.heap.size })
  ⟨a.tmps,w.heap.size,hsz,rfl,by rw [←hsz];exact World.alloc_heap_new _ _,by rw [hr.tmps];simp [Vm.snap],fun j x v hx hv=>(hm.snap j x v hx hv).mono (hm.mono_ext _ hN0) (hm.imm_alloc b 0 0 _ hN0)⟩
 rw [hsz]at hR1
 generalize hσ1:σ.set b (.lp (w.heap.size+1) ⟨fn,ps,assign,body⟩ (snap ts σ.fr C.n) 0)=σ1 at hR1 e
 generalize hw1:(w.alloc (.deferred (some []))).alloc (.loop { state:=.ready,pending:=none,fn,tmps:=a.tmps,params:=ps,assign,body,defers:=w.heap.size })=w1 at hR1 ⊢
 have hval:(xs++#[.func (.yield (w.heap.size+1)) #[] #[]])++ys=(xs.toList++(.func (.yield (w.heap.size+1)) #[] #[]::ys.toList)).toArray:=by apply Array.ext';simp
 rw [hval]
 unfold rgV at e
 replace e:=Qag e;obtain⟨e0,e⟩:=e
 simp only [Qz]at e0
 obtain⟨⟨h1,h2⟩,h3⟩:=e0
 have h2:=Qcb.1 h2
 have h3:=Qcb.1 h3
 have inj:Qhy M=true∧Qhy N=true:=by
  simp only [Qdf,Qz]at h1
  exact⟨h1.1.1.1,h1.1.1.2⟩
 have mM:∀a b,bkM M a=some b→look M b=some a:=fun a b h=>Qbl inj.1 (Qfj h) h2
 have mN:∀a b,bkM N a=some b→look N b=some a:=fun a b h=>Qbl inj.2 (Qfj h) h3
 have hNm:=Names.of h1 h2
 split at e
 case h_2=>cases e
 rename_i us hus
 split at e
 case h_2=>cases e
 rename_i hsC hC
 split at e
 case h_2=>cases e
 rename_i hsN hNN
 cases e
 have hobs:=QcD (hp:=σ1.hp) (g:=false) (bad:=Qfy M) mM hC
 have hfr1:σ1.fr=σ.fr:=by rw [←hσ1];rfl
 refine Qr5 ((hφ2 _ _ w1 _ (Ins.of_vals (g:=false) (vs:=fs++(.clo (.yield (w.heap.size+1)) [] []::cps)) hR1 (by simp [e1,e2]) (fun j x v hx hv=>?_) hNm.injM hNm.param (Qhz mM hus) hobs) ((hR1.glob hpg).mono fun _ h=>.inl h)).mono ?_)
 ·have up:=fun {x:Value} {v:V} (h:Rep φ (Imm C φ w) w x v)=>(h.mono (φ':=φ) (I':=Imm C φ (w.alloc (.deferred (some [])))) (w':=w.alloc (.deferred (some []))) (fun _ _ h=>h) fun k hk=>⟨⟨by have:=hk.1;simp;omega,hk.2⟩,Below.heap_alloc w _ k hk.1⟩).mono (hm.mono_ext ⟨w.heap.size+1,0,0,[],0⟩ hN0) (by
   have:=hm.imm_alloc b 0 0 (.loop { state:=.ready,pending:=none,fn,tmps:=a.tmps,params:=ps,assign,body,defers:=w.heap.size }) hN0
   rw [hsz,hw1]at this;exact this)
  by_cases c1:j<fs.length
  ·rw [QbR (by simpa using (by omega:j<xs.size))]at hx
   rw [QbR c1]at hv
   exact up (e3 j x v (by simpa using hx) hv)
  rw [Qcm (by simp;omega)]at hx
  rw [Qcm (by omega)]at hv
  simp only [Array.length_toList]at hx
  rw [e1]at hx
  generalize j-fs.length=i at hx hv
  cases i with
  | zero=>
   simp at hx hv;subst hx;subst hv
   exact .clo (.yield _) #[] #[] [] [] rfl rfl (fun j x v h=>by simp at h) (fun j x v h=>by simp at h)
  | succ i=>simp only [Qve]at hx hv;exact up (e4 i x v (by simpa using hx) hv)
 rintro e w' ⟨x,v,hs',φ',rfl,⟨rfl,hso⟩,hout⟩
 obtain⟨k3,_⟩:=hR1.after hNm hout hso (fun c s h=>by
  obtain⟨ob',e1⟩:=hobs.get.2 c s h
  obtain⟨s',ob,e2,e3,_⟩:=hobs.get.1 c ob' e1
  rw [h]at e2;cases e2;exact⟨ob,e3⟩) (QcD mN hNN)
 obtain⟨B,hB,tmps,D,f1,f2,f3,f4,f5⟩:=k3.lp hq
 have hst:lst q≠.busy:=by
  match q,hq1 with
  | 0,_=>exact(by intro h;cases h)
  | 1,h=>exact absurd rfl h
  | k+2,_=>exact(by intro h;cases h)
 refine⟨_,_,run_endLoop f3 hst,?_⟩
 have hkill:=k3.killTo hB (w':=w'.putObj (w.heap.size+1) (.loop { state:=.exhausted,pending:=jmp q,fn,tmps,params:=ps,assign,body,defers:=D })) rfl rfl rfl World.putObj_size (fun k hk=>World.putObj_heap_other (by rw [←f1];exact hk))
 simp only
 cases hj:jmp q with
 | none=>rw [hj]at hk hkill;exact hk _ _ ⟨_,hkill⟩
 | some c=>rw [hj]at hk hkill;exact hk _ _ ⟨_,hkill⟩
end
section
variable {P:Program}{C:Ctx}{φ:Nat→Option Blk}{σ:St}{a:Act}{w:World}{o:Oper}
def Qur (P:Program)(T:TypeId)(i:Nat):Option (Nat×Bool×Nat):=match P.underlying T with
 | some (.struct fs)=>match fs[i]? with
  | some f=>match Qhx P f.type with
   | some g=>match Qhg P f.type with
    | some n=>some (f.offset,g,n)
    | none=>none
   | none=>none
  | none=>none
 | _=>none
theorem QBt {T i off n:Nat}{g:Bool}(h:Qur P T i=some (off,g,n)):∃(fs:Array Field) (f:Field),P.underlying T=some (.struct fs)∧fs[i]? = some f∧f.offset=off∧Qhx P f.type=some g∧Qhg P f.type=some n:=by
 unfold Qur at h
 split at h
 ·rename_i fs hu
  split at h
  ·rename_i f hf
   split at h
   ·rename_i g' hg
    split at h
    ·rename_i n' hn;cases h;exact⟨fs,f,hu,hf,rfl,hg,hn⟩
    cases h
   cases h
  cases h
 cases h
theorem Stp.field {T i d off n:Nat}{g:Bool}{x:Operand}{cs:List V}{v:V}(ho:o.op=.field T x i)(hd:o.dst=some d)(hn:Nat.ble (d+1) C.n=true)(hx:σ.opd x=some (.agg cs))(hT:Qur P T i=some (off,g,n))
  (hv:(bif g then some (.agg ((cs.drop off).take n))else cs[off]?)=some v):Stp P C o σ (σ.put d v):=by
 refine Stp.same hd hn fun φ a w hr=>?_
 obtain⟨fs,f,hu,hf,rfl,hg,hsz⟩:=QBt hT
 obtain⟨xs,he,hs,hc⟩:=(hr.opd hx).agg_inv
 cases g with
 | true=>
  cases hv
  refine⟨.agg (xs.extract f.offset (f.offset+n)),?_,.agg _ _ (by simp;omega) fun j x v hj hv=>?_⟩
  ·simp only [execOp,ho,he,Instr.field,Sem.run_bind,run_underlying hu,Result.andThen_ok,hf,part,asAgg,Sem.run_pure,Qq1 hg,if_true,QsM hsz]
  rw [Array.getElem?_extract]at hj
  split at hj
  ·rw [Qcn]at hv
   split at hv
   ·rw [QhU]at hv;exact hc _ x v hj hv
   cases hv
  cases hj
 | false=>
  simp only [cond_false]at hv
  have hlt:f.offset<xs.size:=by rw [hs];exact(QQ.1 hv).1
  refine⟨xs[f.offset],?_,hc _ _ v (Qgc hlt) hv⟩
  simp [execOp,ho,he,Instr.field,Sem.run_bind,run_underlying hu,hf,part,asAgg,Qq1 hg,hlt]
theorem QCc : ∀(ms:List (Option Nat)) (cs:List V),(QdZ ms cs).length=cs.length:=by
 intro ms
 induction ms with
 | nil=>intro cs;cases cs<;>rfl
 | cons m ms ih=>intro cs;cases cs with
  | nil=>rfl
  | cons c cs=>simp [QdZ,ih]
theorem Dat.den1 {I:Nat→Prop}{w:World}{x:Value}{v:V}{m:Option Nat}(h:Dat I w x v):Dat I w x (Vm.den1 m v):=by
 unfold Vm.den1
 split
 ·cases h;exact .sl0 _ _ _
 exact h
theorem QDd {m:Option Nat}{v:V}(h:v.one=true):(Vm.den1 m v).one=true:=by
 unfold Vm.den1
 split
 ·rfl
 exact h
theorem R.denilA {b z:Nat}{rs:List (List V)}{ms:List (Option Nat)}(hb:look σ.hp b=some (.arr z rs))(h:R C σ a w):R C (σ.set b (.arr z (rs.map (QdZ ms)))) a w:=by
 obtain⟨φ,hr⟩:=h
 have hden:∀(ms:List (Option Nat)) (r:List V),(∀v∈r,v.one=true)→∀v∈QdZ ms r,v.one=true:=by
  intro ms
  induction ms with
  | nil=>intro r hr;cases r<;>exact hr
  | cons m ms ih=>intro r hr;cases r with
   | nil=>exact hr
   | cons c r=>
    intro v hv
    rcases Qaa.1 hv with rfl | hv
    ·exact QDd (hr c Q5)
    exact ih r (fun v hv=>hr v (Qab _ hv)) v hv
 by_cases hne:rs=[]
 ·subst hne
  exact⟨φ,hr.sayOb (ob':=.arr z []) hb (fun _ _ h=>h) (.inl rfl)⟩
 refine⟨φ,hr.sayOb hb (fun B hB hrep=>?_) (.inr fun e=>hne e)⟩
 obtain⟨h1,h2,h3,cs,E,h4,h5,h6⟩:=hrep
 refine⟨h1,by simpa using h2,fun r hr'=>?_,cs,E,h4,h5,fun i r hi j v hj=>?_⟩
 ·obtain⟨r0,hr0,rfl⟩:=QG.1 hr'
  exact⟨by rw [QCc];exact(h3 r0 hr0).1,hden _ _ (h3 r0 hr0).2⟩
 rw [Qan]at hi
 obtain⟨r0,hi0,rfl⟩:=Qaq.1 hi
 obtain⟨m,v',hv',rfl⟩:=QpQ _ _ j v hj
 obtain⟨x,hx,hD⟩:=h6 i r0 hi0 j v' hv'
 exact⟨x,hx,hD.den1⟩
theorem AK.denilA {Q:Exit→St→Prop}{pt:Pt}{ks:List Fr}{b z:Nat}{rs us:List (List V)}(ms:List (Option Nat))(hb:look σ.hp b=some (.arr z rs))(he:rs.map (QdZ ms)=us)(k:AK P C Q pt ks (σ.set b (.arr z us))):AK P C Q pt ks σ:=by
 subst he
 exact AK.weaken (fun a w h=>R.denilA hb h) k
theorem QzM {α:Type}{f:α→List V}{n:Nat}{x:α}{r:List V}{ms:List (Option Nat)}(h:QdZ ms r=f x):(List.replicate n r).map (QdZ ms)=(List.replicate n x).map f:=by simp [h]
end
theorem QDe {p:Prop}{f:Code→Prop}{q:Nat}(h:(q==0)=true)(k:p):atJ p f (jmp q):=by rw [eq_of_beq h];exact k
theorem QEB {p:Prop}{f:Code→Prop}{q:Nat}(h:(q==2)=true)(k:f .ret):atJ p f (jmp q):=by rw [eq_of_beq h];exact k
def rfs : Code→List (Array Tmp×Code×Code)
 | .seq x y=>rfs x++rfs y
 | .cond _ x y=>rfs x++rfs y
 | .block _ x=>rfs x
 | .loop x=>rfs x
 | .rangeFunc _ ps a b=>[(ps,a,b)]
 | _=>[]
def QDf (f:Func)(k fn:Nat):QgT:=match f.body with
 | some c=>match (rfs c)[k]? with
  | some (ps,a,b)=>⟨fn,ps,a,b⟩
  | none=>⟨fn,#[],.skip,.skip⟩
 | none=>⟨fn,#[],.skip,.skip⟩
def yV (P:Program)(σ:St)(l d:Nat)(K:QgT)(vs:List V)(M N:List (Nat×Nat))(dead:List Nat)(ms:List Qgh)(outs:List (Nat×Ob))(r:V):Option (St×Prop):=
 bif Qdf σ M N dead outs&&Qgf (M.map Prod.fst)&&Qgf (N.map Prod.fst)then match Qms (bkM M) ms vs with
  | some us=>match Qic (bkM M) (look σ.hp) M with
   | some hsC=>match Qic (bkM N) (look outs) N with
    | some hsN=>match trV (bkM N) r with
     | some r'=>some ((σ.after dead hsN).put d r',Qky P l K us hsC (Gives r outs))
     | none=>none
    | none=>none
   | none=>none
  | none=>none
 else none
section
variable {P:Program}{C:Ctx}{σ σ':St}{o:Oper}
theorem Stp.yieldV {d b l:Nat}{K:QgT}{cs:List V}{q:Nat}{x:Operand}{ags:Array Operand}{ts:Array TypeId}{M N:List (Nat×Nat)}{dead:List Nat}{outs:List (Nat×Ob)}{vs us:List V}{ms:List Qgh}{r:V}{φ:Prop}(ho:o.op=.call { callee:=.value x,args:=ags,argTypes:=ts })
  (hx:σ.opd x=some (.clo (.yield l) [] [])) (hlp:look σ.hp b=some (.lp l K cs q)) (hq:q=0) (ha:σ.opsV ags.toList=some vs) (hps:vs.length=K.ps.size) (hd:o.dst=some d) (hn:Nat.ble (d+1) C.n=true) (hpg:C.pg P)
  (hu:Qvp cs K.ps.toList vs=us) (e:yV P σ l d K us M N dead ms outs r=some (σ',φ)) (hφ:φ):Stp P C o σ σ':=by
 unfold yV at e
 replace e:=Qag e;obtain⟨e1,e⟩:=e
 simp only [Qz]at e1
 obtain⟨⟨h1,h2⟩,h3⟩:=e1
 have h2:=Qcb.1 h2
 have h3:=Qcb.1 h3
 have inj:Qhy M=true∧Qhy N=true:=by
  simp only [Qdf,Qz]at h1
  exact⟨h1.1.1.1,h1.1.1.2⟩
 have mM:∀a b,bkM M a=some b→look M b=some a:=fun a b h=>Qbl inj.1 (Qfj h) h2
 have mN:∀a b,bkM N a=some b→look N b=some a:=fun a b h=>Qbl inj.2 (Qfj h) h3
 split at e
 ·rename_i us hus
  split at e
  ·rename_i hsC hC
   split at e
   ·rename_i hsN hN
    split at e
    ·rename_i r' hr
     cases e
     subst hu
     exact Stp.yield ho hx hlp hq ha hps hd hn hpg h1 h2 (Qhz mM hus) (QcD mM hC) hφ (QcD mN hN) (Qku mN hr)
    cases e
   cases e
  cases e
 cases e
end
section
variable {P:Program}{C:Ctx}{φ:Nat→Option Blk}{σ:St}{a:Act}{w:World}{o:Oper}
theorem Qtz {zc:Array Value}{z m i:Nat}(hz:zc.size=z)(h0:0<z)(h:i<m*z):(Builtin.zeroCells zc m).toList[i]? = zc[i % z]? := by
 have h2:i % z<zc.size:=by rw [hz];exact Nat.mod_lt _ h0
 simp only [Builtin.zeroCells,hz,Array.toList_map,Array.toList_range,Qan,List.getElem?_range h,QdY,Array.getElem!_eq_getD,QrE,Qgc h2,Qne]
theorem RR.clearTail {b n l z e:Nat}{rs:List (List V)}{zs:List V}{zv:Value}{B:Blk}(hr:RR C φ σ a w)(hb:look σ.hp b=some (.arr z rs))(hrn:rs.length=n)(hB:φ b=some B)(hzs:zv.cells.toList.map Qg6=zs)(hzl:zs.length=z)(h0:0<z)(hzo:zs.all V.one=true)
  (hln:l≤n):∃w',(storeCells ⟨B.b,B.off+l*z,none⟩ (Builtin.zeroCells zv.cells (n-l)).toList).run P w=.ok () w'∧RR C φ (σ.set b (.arr z (rs.take l++List.replicate (n-l) zs))) a w':=by
 obtain⟨hz,hrl,hok,xs,E,e1,e2,e3⟩:=hr.block hB hb
 subst hz
 have hcs:zv.cells.size=B.z:=by rw [←hzl,←hzs];simp
 rw [Qac]at hzo
 have hlen:(Builtin.zeroCells zv.cells (n-l)).toList.length=(n-l)*B.z:=by simp [Builtin.zeroCells,hcs]
 have hmul:l*B.z+(n-l)*B.z=n*B.z:=by rw [←QcC];congr 1;omega
 have hnc:n*B.z≤B.cap*B.z:=Qb3 _ (by omega)
 have hone:∀v∈(Builtin.zeroCells zv.cells (n-l)).toList,v.oneCell'=true:=by
  intro v hv
  obtain⟨i,hi⟩:=Qpo.1 hv
  have hil:i<(n-l)*B.z:=by rw [←hlen];exact(QQ.1 hi).1
  rw [Qtz hcs h0 hil]at hi
  have hm:(Qg6 v)∈zs:=by rw [←hzs];exact Qvi (Qwa.2 (Array.mem_of_getElem? hi))
  exact((Rep.dat (φ:=φ) (I:=fun _=>True) (w:=w) (Dat.const v)).oneCell (hzo _ hm)).2
 generalize hZ:(Builtin.zeroCells zv.cells (n-l)).toList=Z at hlen hone
 have hrun:=run_storeCells_at P B.b (B.off+l*B.z) E Z 0 xs w e1 (by rw [hlen];omega) hone
 simp only [Qol]at hrun
 refine⟨_,hrun,?_⟩
 have hl1:(xs.toList.take (B.off+l*B.z)++Z++xs.toList.drop (B.off+l*B.z+Z.length)).length=xs.size:=by simp [hlen];omega
 refine hr.write hB rfl rfl rfl (by simp) (fun k hk=>setRow_other w B.b k _ hk) ⟨rfl,by simp;omega,?_,_,E,setRow_heap w B.b xs _ E _ e1,?_,?_⟩
 ·intro r' hr'
  rcases Qco.1 hr' with h | h
  ·exact hok r' (QgS h)
  rw [QqS h];exact⟨hzl,hzo⟩
 ·simp only [List.size_toArray,hl1];exact e2
 have hI:∀k,Imm C φ w k→Imm C φ (w.setRow B.b (xs.toList.take (B.off+l*B.z)++Z++xs.toList.drop (B.off+l*B.z+Z.length)).toArray) k∧
   (w.setRow B.b (xs.toList.take (B.off+l*B.z)++Z++xs.toList.drop (B.off+l*B.z+Z.length)).toArray).heap[k]? = w.heap[k]?:=
  fun k hk=>⟨⟨by simpa using hk.1,hk.2⟩,setRow_other w B.b k _ fun e=>hk.2.2 b B hB (.inl e)⟩
 intro i r hi j v hj
 by_cases hil:i<l
 ·rw [QbR (by simp;omega),Qcn,if_pos hil]at hi
  obtain⟨y,hy,hD⟩:=e3 i r hi j v hj
  have hjz:j<B.z:=by rw [←(hok r (QaL hi)).1];exact(QQ.1 hj).1
  have hlt:i*B.z+j<l*B.z:=by
   have:(i+1)*B.z≤l*B.z:=Qb3 _ hil
   rw [QcC]at this;omega
  refine⟨y,?_,hD.mono hI⟩
  have hyl:=(Qhw.1 hy).1
  rw [QiC,QhT,QbR (by simp;omega),Qcn,if_pos (by omega)];simpa using hy
 rw [Qcm (by simp;omega)]at hi
 simp only [Qfh,hrn,QpI hln]at hi
 rw [List.getElem?_replicate]at hi
 split at hi
 ·rename_i hin
  cases hi
  have hjz:j<B.z:=by rw [←hzl];exact(QQ.1 hj).1
  rw [←hzs,Qan]at hj
  obtain⟨y,hy,rfl⟩:=Qaq.1 hj
  refine⟨y,?_,Dat.const y⟩
  have hidx:(i-l)*B.z+j<(n-l)*B.z:=by
   have:(i-l+1)*B.z≤(n-l)*B.z:=Qb3 _ hin
   rw [QcC]at this;omega
  have hsum:i*B.z=l*B.z+(i-l)*B.z:=by rw [←QcC];congr 1;omega
  rw [QiC,QhT,Qcm (by simp;omega),QbR (by simp [hlen];omega)]
  have:B.off+(i*B.z+j)-(xs.toList.take (B.off+l*B.z)).length=(i-l)*B.z+j:=by simp;omega
  rw [this,←hZ,Qtz hcs h0 hidx]
  have hm:((i-l)*B.z+j) % B.z=j:=by rw [Nat.add_comm,Nat.add_mul_mod_self_right,Nat.mod_eq_of_lt hjz]
  rw [hm];simpa using hy
 cases hi
theorem AK.clearTail {Q:Exit→St→Prop}{ks:List Fr}{ops:Array Oper}{rest:List Oper}{o1 o2:Oper}{T d b n l z e by_:Nat}{x lo:Operand}{rs us:List (List V)}{zs:List V}(hg1:o1.guard=none)(hg2:o2.guard=none)
  (ho1:o1.op=.slice T x (some lo) none none) (hd1:o1.dst=some d) (ho2:o2.op=.call { callee:=.builtin .clear,args:=#[.tmp d],argTypes:=#[T] }) (hd2:o2.dst=none) (hn:Nat.ble (d+1) C.n=true)
  (hx:σ.opd x=some (.own b n)) (hb:look σ.hp b=some (.arr z rs)) (hrn:rs.length=n) (hT:Qaz P T=some (e,z,by_)) (hz:Qar P e=some zs) (hzl:zs.length=z) (h0:Nat.ble 1 z=true) (hzo:zs.all V.one=true) (hl:Bnd σ 0 (some lo) l) (hln:l≤n)
  (hu:rs.take l++List.replicate (n-l) zs=us) (k:AK P C Q (.o ops rest) ks ((σ.set b (.arr z us)).put d .J)):AK P C Q (.o ops (o1::o2::rest)) ks σ:=by
 intro a w ⟨φ,hr⟩
 subst hu
 have h0:=Qb8 h0
 obtain⟨hu,i,hi',hiz,_⟩:=Qc0 hT
 obtain⟨i',zv,hi2,hz',hzs⟩:=Qix hz
 have key:∃x1 w',(execOp a.eval o1).run P w=.ok (.value x1) w∧(Builtin.clear_ #[T] o2.type #[x1]).run P w=.ok (.tuple #[]) w'∧RR C φ (σ.set b (.arr z (rs.take l++List.replicate (n-l) zs))) a w':=by
  rcases(hr.opd hx).own_inv with⟨he,rfl⟩|⟨B,hB,hcap,he⟩
  ·have l0:l=0:=by omega
   subst l0
   have:rs=[]:=QqV.1 hrn
   subst this
   refine⟨.slice none 0 0,w,?_,?_,hr.sayOb (ob':=.arr z []) hb (fun _ _ h=>h) (.inl rfl)⟩
   ·have hbn:=Qk4 (P:=P) (b:=true) hr hl (.no (dflt:=0)) (by omega) (by omega:0≤0)
    simp only [QdY,QpL]at hbn
    simp [execOp,ho1,he,Instr.sliceAt,Instr.slice,run_underlying hu,hbn,sizeOf,typeInfo,hi']
   simp [Builtin.clear_,run_underlying hu]
  have hbn:=Qk4 (P:=P) (b:=true) hr hl (.no (dflt:=n)) hln (by omega:n≤B.cap)
  simp only [QdY,QpL]at hbn
  by_cases hcl:B.cap=l
  ·have hln2:n-l=0:=by omega
   refine⟨.slice (some ⟨B.b,B.off,none⟩) 0 0,w,?_,?_,?_⟩
   ·simp only [execOp,ho1,he,Instr.sliceAt,Instr.slice,run_underlying hu,hbn,sizeOf,typeInfo,hi',Sem.run_bind,Sem.run_pure,run_program,Result.andThen_ok,QdY,QpL]
    simp [hcl];omega
   ·simp [Builtin.clear_,run_underlying hu]
   rw [hln2,List.replicate_zero,QsJ,QeV (by omega)]
   exact hr.sayOb hb (fun _ _ h=>h) (.inl rfl)
  obtain⟨w',hw,hr'⟩:=hr.clearTail (P:=P) (l:=l) (e:=e) hb hrn hB hzs hzl h0 hzo hln
  refine⟨.slice (some ⟨B.b,B.off+l*z,none⟩) (n-l) (B.cap-l),?_⟩
  have hex:(execOp a.eval o1).run P w=.ok (.value (.slice (some ⟨B.b,B.off+l*z,none⟩) (n-l) (B.cap-l))) w:=by
   simp only [execOp,ho1,he,Instr.sliceAt,Instr.slice,run_underlying hu,hbn,sizeOf,typeInfo,hi',Sem.run_bind,Sem.run_pure,run_program,Result.andThen_ok,QdY,QpL,if_neg hcl,hiz,Addr.add_lit]
  by_cases hnl:n-l=0
  ·refine⟨w,hex,?_,?_⟩
   ·rw [hnl];simp [Builtin.clear_,run_underlying hu]
   rw [hnl,List.replicate_zero,QsJ,QeV (by omega)]
   exact hr.sayOb hb (fun _ _ h=>h) (.inl rfl)
  refine⟨w',hex,?_,hr'⟩
  obtain⟨m,hm⟩:∃m,n-l=m+1:=⟨n-l-1,by omega⟩
  rw [hm]at hw ⊢
  rw [hi2]at hi';cases hi'
  simp only [Builtin.clear_,Sem.run_bind,run_underlying hu,Result.andThen_ok,Sem.run_pure,zeroValue,typeInfo,run_program,hi2,hz',QiC,List.getElem?_cons_zero]
  simp [hw,hz']
 obtain⟨x1,w',hex,hcl,hr'⟩:=key
 have hput:∀t,(a.put (some d) x1).tmps[t]? = if t=d then(if d<a.tmps.size then some x1 else none)else a.tmps[t]? := fun t=>by
  simp only [Act.put,QrF]
  by_cases e:d=t
  ·subst e;simp
  simp [e,Ne.symm e]
 have hev:(a.put (some d) x1).eval (.tmp d)=x1:=by
  have hlt:d<a.tmps.size:=by rw [hr.tmps];exact Qah hn
  simp [Act.eval,Act.put,QrE,QrF,hlt]
 have hex2:(execOp (a.put (some d) x1).eval o2).run P w=.ok (.value (.tuple #[])) w':=by
  simp only [execOp,ho2,resolve,invoke,builtin,Sem.run_bind,Sem.run_pure,Result.andThen_ok,List.map_toArray,QaZ,List.map_nil,hev,hcl]
 show wpListIn C.F 0 P ops (up C (unw P C Q ks)) (o1::o2::rest) a w
 simp only [wpListIn,Region.wanted,hg1,if_true]
 refine⟨fun _ _=>trivial,?_⟩
 rw [QwT hex,Oper.uponIn_value,hd1]
 simp only [wpListIn,Region.wanted,hg2,if_true]
 refine⟨fun _ _=>trivial,?_⟩
 rw [QwT hex2,Oper.uponIn_value,hd2]
 exact k _ _ ⟨φ,hr'.put (Qah hn) (.dat (.J x1))⟩
theorem QCd {α:Type}{f:α→List V}{e:List α}{l k:Nat}{zs:List V}{x:α}{ms:List (Option Nat)}(h1:∀y,QdZ ms (f y)=f y)(h2:QdZ ms zs=f x):((e.map f).take l++List.replicate k zs).map (QdZ ms)=(e.take l++List.replicate k x).map f:=by
 have h3:QdZ ms∘f=f:=funext h1
 simp [List.map_take,h2,h3]
theorem Qw8 {α:Type}{b l:Nat}{e:List α}{x:α}(h:l≤e.length):V.own b e.length=V.own b (e.take l++List.replicate (e.length-l) x).length:=by
 congr 1;simp;omega
end
end Go.Vm
namespace Go.Vm
open Go Go.RowKit Go.Proofs Go.Sort Go.Shelf
def Qk6 (l:List Int):List Int:=l.mergeSort fun x y=>decide (x≤y)
def Qjw (x:Int):List V:=[V.i .i64 x]
theorem QyA (l:List Int):(Qk6 l).length=l.length:=List.length_mergeSort ..
theorem QAy {P:Program}{ρ:Ren}(Ly:Lays.n189 P ρ)(zs:List Int)(hz:zs.length<4611686018427387904):
  Qd P (ρ.f 189) [.own 615 zs.length] [(615,.arr 1 (zs.map Qjw))] (Gives (.tup []) [(615,.arr 1 ((Qk6 zs).map Qjw))]):=by
 intro S φ w vals hi _
 have hs:=hi.size
 obtain⟨v0,hv0⟩:∃v0,vals=#[v0]:=by
  obtain⟨l⟩:=vals
  match l,hs with
  | [x],_=>exact⟨x,rfl⟩
 subst hv0
 have ha:=hi.args 0 v0 _ rfl rfl
 rcases ha.own_inv with⟨hx,hn⟩|⟨B,hB,hn,hx⟩
 ·have h0:zs=[]:=Qzb hn
  subst h0;subst hx
  refine(Any.slices_Sort_int_none Ly none 0 w).mono ?_
  rintro e w' ⟨rfl,rfl⟩
  refine⟨.tuple #[],.tup [],[(615,.arr 1 [])],φ,rfl,⟨rfl,fun c ob h=>by simpa [Qk6] using h⟩,rfl,rfl,rfl,QbY _,fun _ _ _=>rfl,hi.inj,fun o B h=>?_,fun o B k h hk=>?_,fun o B k h hk hlt=>?_,⟨fun o B _ h=>h,fun o ob B _ _ h=>h⟩,.dat (.tup _ _ rfl fun j x v h=>by simp at h),fun o ob h=>?_⟩
  ·obtain⟨_,_,ob,hob⟩:=hi.dom o B h;exact⟨ob,hob⟩
  ·obtain⟨_,h2,_⟩:=hi.dom o B h
   exact⟨(h2 k hk).1,fun _=>⟨o,B,h,hk⟩⟩
  ·obtain⟨h1,_,_⟩:=hi.dom o B h;omega
  have hS:∀k,S k→Aft S φ w' w' k∧w'.heap[k]? = w'.heap[k]? := fun k hk=>⟨⟨hi.lt k hk,fun _=>hk,fun o B h hb=>((hi.dom o B h).2.1 k hb).2 hk⟩,rfl⟩
  rcases hi.heap o ob h with⟨B,hB,hr⟩|hn
  ·exact .inl ⟨B,hB,hr.mono (fun _ _ h=>h) hS fun _ _=>rfl⟩
  exact .inr hn
 subst hx
 have hob:QbZ φ S w B (.arr 1 (zs.map Qjw)):=by
  rcases hi.heap 615 _ (Qu _ _ _)with⟨B',hB',hr⟩|⟨hn',_⟩
  ·rw [hB]at hB';cases hB';exact hr
  rw [hB]at hn';cases hn'
 obtain⟨hz1,hle,hok,cs,E,hb,hsz,hcell⟩:=hob
 have hlt:B.b<w.heap.size:=((hi.dom _ _ hB).2.1 _ B.self).1
 have hrow:∀(l:List Int) (i:Nat) (x:Int),l[i]? = some x→(l.map Qjw)[i]? = some (Qjw x):=fun l i x h=>by rw [Qan,h];rfl
 have hc:∀(i:Nat) x,zs[i]? = some x→cs[B.off+i]? = some (.int .i64 x):=fun i x h=>by
  obtain⟨y,hy,hd⟩:=hcell i _ (hrow _ i x h) 0 (.i .i64 x) rfl
  rw [show i*1+0=i by omega]at hy
  rw [hy];cases hd;rfl
 have hH:Holds (Value.int .i64) w B.b B.off zs.toArray:=fun j hj=>by
  have hj':j<zs.length:=by simpa using hj
  have h1:=hc j zs[j] (QD hj')
  have h2:zs.toArray[j]! = zs[j]:=by simp [hj']
  refine⟨?_,?_⟩
  ·rw [h2];simp [World.cell?,hb,h1]
  simp [World.frozen?,hb]
 refine(Any.slices_Sort_int Ly B.b B.off B.cap zs w hH hlt hz).mono ?_
 rintro e w' ⟨rfl,n,os,rfl⟩
 have hh:∀k,k<w.heap.size→(grow (putRow (Value.int .i64) (Sort.ahead w n) B.b B.off (Qk6 zs).toArray) os).heap[k]? = (w.heap.modify B.b (onCells (putCells (Value.int .i64) B.off (Qk6 zs).toArray)))[k]? := fun k hk=>by
  rw [heap_grow_old _ _ (by rw [size_putRow];exact hk)];rfl
 have ho:∀k,k<w.heap.size→k≠B.b→(grow (putRow (Value.int .i64) (Sort.ahead w n) B.b B.off (Qk6 zs).toArray) os).heap[k]? = w.heap[k]? := fun k hk hne=>by
  rw [hh k hk,QxU,if_neg (Ne.symm hne)]
 have hsize:w.heap.size≤(grow (putRow (Value.int .i64) (Sort.ahead w n) B.b B.off (Qk6 zs).toArray) os).heap.size:=by
  rw [size_grow,size_putRow];exact Nat.le_add_right _ _
 have hme:(grow (putRow (Value.int .i64) (Sort.ahead w n) B.b B.off (Qk6 zs).toArray) os).heap[B.b]? = some (.cells (putCells (Value.int .i64) B.off (Qk6 zs).toArray cs) E (0,0)):=by
  rw [hh _ hlt,QxU,if_pos rfl,hb];rfl
 have hall:∀o' B',φ o'=some B'→o'=615:=fun o' B' h'=>by
  obtain⟨_,_,ob,hob⟩:=hi.dom o' B' h'
  by_cases e:615=o'
  ·exact e.symm
  rw [Qr _ _ e]at hob;cases hob
 refine⟨.tuple #[],.tup [],[(615,.arr 1 ((Qk6 zs).map Qjw))],φ,rfl,⟨rfl,fun c ob h=>h⟩,rfl,rfl,rfl,hsize,fun k hk hno=>?_,hi.inj,fun o B h=>?_,fun o B k h hk=>?_,fun o B k h hk hl=>?_,⟨fun o B _ h=>h,fun o ob B _ _ h=>h⟩,.dat (.tup _ _ rfl fun j x v h=>by simp at h),fun o ob h=>?_⟩
 ·exact ho k hk fun e=>hno 615 B hB (e▸B.self)
 ·rw [hall o B h];exact⟨_,Qu _ _ _⟩
 ·obtain⟨_,h2,_⟩:=hi.dom o B h
  exact⟨Qhf (h2 k hk).1 hsize,fun _=>⟨o,B,h,hk⟩⟩
 ·obtain⟨h1,_,_⟩:=hi.dom o B h;omega
 by_cases e:615=o
 ·subst e
  rw [Qu]at h;cases h
  refine .inl ⟨B,hB,hz1,?_,?_,_,E,hme,?_,?_⟩
  ·rw [Qk0,QyA];rw [Qk0]at hle;exact hle
  ·intro r hr;obtain⟨x,_,rfl⟩:=QG.1 hr
   exact⟨rfl,fun v hv=>by simp [Qjw]at hv;subst hv;rfl⟩
  ·simpa [putCells] using hsz
  intro i r hi' j v hj
  rw [Qan]at hi'
  obtain⟨x,hx,rfl⟩:=Qaq.1 hi'
  have hil:i<(Qk6 zs).length:=(QQ.1 hx).1
  have hil':i<zs.length:=by rw [QyA]at hil;exact hil
  match j,hj with
  | 0,hj=>
   cases hj
   refine⟨.int .i64 x,?_,.i _ _⟩
   rw [show i*1+0=i by omega]
   have h1:=hc i zs[i] (QD hil')
   have h2:(Qk6 zs).toArray[i]! = x:=by
    have:=QQ.1 hx
    obtain⟨h3,h4⟩:=this
    simp [h3,h4]
   simp only [putCells,Array.getElem?_mapIdx,h1,QdY]
   rw [if_pos ⟨by omega,by simp;omega⟩,show B.off+i-B.off=i by omega,h2]
  | j+1,hj=>simp [Qjw]at hj
 rw [Qr _ _ e]at h;cases h
def Qx5 (x:Int):List Int→List Int
 | []=>[x]
 | y::l=>bif decide (x≤y)then x::y::l else y::Qx5 x l
def QeW : List Int→List Int
 | []=>[]
 | x::l=>Qx5 x (QeW l)
theorem QyB (x:Int)(l:List Int):(Qx5 x l).Perm (x::l):=by
 induction l with
 | nil=>exact .refl _
 | cons y l ih=>
  rw [Qx5]
  cases decide (x≤y)with
  | true=>exact .refl _
  | false=>exact(ih.cons y).trans (.swap x y l)
theorem QD0 {x:Int}{l:List Int}(h:l.Pairwise (·≤·)):(Qx5 x l).Pairwise (·≤·):=by
 induction l with
 | nil=>exact List.pairwise_singleton _ _
 | cons y l ih=>
  obtain⟨h1,h2⟩:=List.pairwise_cons.1 h
  rw [Qx5]
  cases c:decide (x≤y)with
  | true=>
   have c:=QV c
   refine List.pairwise_cons.2 ⟨fun z hz=>?_,h⟩
   rcases Qaa.1 hz with rfl | hz
   ·exact c
   have:=h1 z hz;omega
  | false=>
   have c:=of_decide_eq_false c
   refine List.pairwise_cons.2 ⟨fun z hz=>?_,ih h2⟩
   rcases Qaa.1 ((QyB x l).mem_iff.1 hz)with rfl | hz
   ·omega
   exact h1 z hz
theorem Qpv (l:List Int):(QeW l).Perm l:=by
 induction l with
 | nil=>exact .refl _
 | cons x l ih=>exact(QyB x _).trans (ih.cons x)
theorem QAz (l:List Int):(QeW l).Pairwise (·≤·):=by
 induction l with
 | nil=>exact List.Pairwise.nil
 | cons x l ih=>exact QD0 ih
theorem Qs5 (l:List Int):QeW l=l.mergeSort fun x y=>decide (x≤y):=by
 refine List.Perm.eq_of_pairwise (le:=fun x y:Int=>x≤y) (fun a b _ _ h1 h2=>by omega) (QAz l) ?_ ((Qpv l).trans (List.mergeSort_perm l _).symm)
 exact(List.pairwise_mergeSort (le:=fun x y:Int=>decide (x≤y)) (fun a b c h1 h2=>by simp at *;omega) (fun a b=>by simp;omega) l).imp fun h=>by simpa using h
theorem Qhi (l:List Int):(QeW l).length=l.length:=(Qpv l).length_eq
theorem QAA {P:Program}{ρ:Ren}(Ly:Lays.n189 P ρ)(zs:List Int)(hz:zs.length<4611686018427387904):
  Qd P (ρ.f 189) [.own 615 zs.length] [(615,.arr 1 (zs.map Qjw))] (Gives (.tup []) [(615,.arr 1 ((QeW zs).map Qjw))]):=by
 have h:=QAy Ly zs hz
 rw [show Qk6 zs=QeW zs from(Qs5 zs).symm]at h
 exact h
def Qes (l:List Int):List Int:=Lib.compact l
theorem QAB {P:Program}{ρ:Ren}(Ly:Lays2.n20 P ρ)(zs:List Int)(hz:zs.length<4611686018427387904):
  Qd P (ρ.f 20) [.own 615 zs.length] [(615,.arr 1 (zs.map Qjw))] (Gives (.own 615 (Qes zs).length) [(615,.arr 1 ((Qes zs).map Qjw))]):=by
 intro S φ w vals hi _
 have hs:=hi.size
 obtain⟨v0,hv0⟩:∃v0,vals=#[v0]:=by
  obtain⟨l⟩:=vals
  match l,hs with
  | [x],_=>exact⟨x,rfl⟩
 subst hv0
 have ha:=hi.args 0 v0 _ rfl rfl
 have hall:∀o' B',φ o'=some B'→o'=615:=fun o' B' h'=>by
  obtain⟨_,_,ob,hob⟩:=hi.dom o' B' h'
  by_cases e:615=o'
  ·exact e.symm
  rw [Qr _ _ e]at hob;cases hob
 rcases ha.own_inv with⟨hx,hn⟩|⟨B,hB,hn,hx⟩
 ·have h0:zs=[]:=Qzb hn
  subst h0;subst hx
  have hc0:Qes []=[]:=by simp [Qes,Lib.compact,Lib.compactUpTo]
  rw [hc0]
  refine(Any.slices_Compact_int_empty Ly none 0 w).mono ?_
  rintro e w' ⟨rfl,rfl⟩
  refine⟨.slice none 0 0,.own 615 0,[(615,.arr 1 [])],φ,rfl,⟨rfl,fun c ob h=>h⟩,rfl,rfl,rfl,QbY _,fun _ _ _=>rfl,hi.inj,fun o B h=>?_,fun o B k h hk=>?_,fun o B k h hk hlt=>?_,⟨fun o B _ h=>h,fun o ob B _ _ h=>h⟩,.own0 _,fun o ob h=>?_⟩
  ·obtain⟨_,_,ob,hob⟩:=hi.dom o B h;exact⟨ob,hob⟩
  ·obtain⟨_,h2,_⟩:=hi.dom o B h
   exact⟨(h2 k hk).1,fun _=>⟨o,B,h,hk⟩⟩
  ·obtain⟨h1,_,_⟩:=hi.dom o B h;omega
  have hS:∀k,S k→Aft S φ w' w' k∧w'.heap[k]? = w'.heap[k]? := fun k hk=>⟨⟨hi.lt k hk,fun _=>hk,fun o B h hb=>((hi.dom o B h).2.1 k hb).2 hk⟩,rfl⟩
  rcases hi.heap o ob h with⟨B,hB,hr⟩|hn
  ·exact .inl ⟨B,hB,hr.mono (fun _ _ h=>h) hS fun _ _=>rfl⟩
  exact .inr hn
 subst hx
 have hob:QbZ φ S w B (.arr 1 (zs.map Qjw)):=by
  rcases hi.heap 615 _ (Qu _ _ _)with⟨B',hB',hr⟩|⟨hn',_⟩
  ·rw [hB]at hB';cases hB';exact hr
  rw [hB]at hn';cases hn'
 obtain⟨hz1,hle,hok,cs,E,hb,hsz,hcell⟩:=hob
 have hlt:B.b<w.heap.size:=((hi.dom _ _ hB).2.1 _ B.self).1
 have hrow:∀(l:List Int) (i:Nat) (x:Int),l[i]? = some x→(l.map Qjw)[i]? = some (Qjw x):=fun l i x h=>by rw [Qan,h];rfl
 have hc:∀(i:Nat) x,zs[i]? = some x→cs[B.off+i]? = some (.int .i64 x):=fun i x h=>by
  obtain⟨y,hy,hd⟩:=hcell i _ (hrow _ i x h) 0 (.i .i64 x) rfl
  rw [show i*1+0=i by omega]at hy
  rw [hy];cases hd;rfl
 have hH:Holds (Value.int .i64) w B.b B.off zs.toArray:=fun j hj=>by
  have hj':j<zs.length:=by simpa using hj
  have h1:=hc j zs[j] (QD hj')
  have h2:zs.toArray[j]! = zs[j]:=by simp [hj']
  refine⟨?_,?_⟩
  ·rw [h2];simp [World.cell?,hb,h1]
  simp [World.frozen?,hb]
 have hcl:(Qes zs).length≤zs.length:=by
  unfold Qes Lib.compact Lib.compactUpTo
  rw [Qk0]
  exact Qaw (Qvg _ _) (by simp)
 refine(Any.slices_Compact_int Ly B.b B.off B.cap zs w hH (by omega) hn).mono ?_
 rintro e w' ⟨rfl,n,rfl⟩
 change ∃x v hs' φ',Ending.returned (.slice (some ⟨B.b,B.off,none⟩) (Qes zs).length B.cap)=.returned x∧_∧Outs S φ w φ' (putRow (Value.int .i64) (Sort.ahead w n) B.b B.off (Qes zs++List.replicate (zs.length-(Qes zs).length) 0).toArray) x v hs'
 generalize hD:(Qes zs++List.replicate (zs.length-(Qes zs).length) 0).toArray=D
 have hDs:D.size=zs.length:=by subst hD;simp;omega
 have hh:∀k:Nat,(putRow (Value.int .i64) (Sort.ahead w n) B.b B.off D).heap[k]? = (w.heap.modify B.b (onCells (putCells (Value.int .i64) B.off D)))[k]? := fun k=>rfl
 have ho:∀k:Nat,k≠B.b→(putRow (Value.int .i64) (Sort.ahead w n) B.b B.off D).heap[k]? = w.heap[k]? := fun k hne=>by
  rw [hh k,QxU,if_neg (Ne.symm hne)]
 have hsize:w.heap.size≤(putRow (Value.int .i64) (Sort.ahead w n) B.b B.off D).heap.size:=by
  rw [size_putRow];exact QbY _
 have hme:(putRow (Value.int .i64) (Sort.ahead w n) B.b B.off D).heap[B.b]? = some (.cells (putCells (Value.int .i64) B.off D cs) E (0,0)):=by
  rw [hh _,QxU,if_pos rfl,hb];rfl
 refine⟨_,.own 615 (Qes zs).length,[(615,.arr 1 ((Qes zs).map Qjw))],φ,rfl,⟨rfl,fun c ob h=>h⟩,rfl,rfl,rfl,hsize,fun k hk hno=>?_,hi.inj,fun o B h=>?_,fun o B k h hk=>?_,fun o B k h hk hl=>?_,⟨fun o B _ h=>h,fun o ob B _ _ h=>h⟩,.own _ _ B hB (by omega),fun o ob h=>?_⟩
 ·exact ho k fun e=>hno 615 B hB (e▸B.self)
 ·rw [hall o B h];exact⟨_,Qu _ _ _⟩
 ·obtain⟨_,h2,_⟩:=hi.dom o B h
  exact⟨Qhf (h2 k hk).1 hsize,fun _=>⟨o,B,h,hk⟩⟩
 ·obtain⟨h1,_,_⟩:=hi.dom o B h;omega
 by_cases e:615=o
 ·subst e
  rw [Qu]at h;cases h
  refine .inl ⟨B,hB,hz1,?_,?_,_,E,hme,?_,?_⟩
  ·rw [Qk0];omega
  ·intro r hr;obtain⟨x,_,rfl⟩:=QG.1 hr
   exact⟨rfl,fun v hv=>by simp [Qjw]at hv;subst hv;rfl⟩
  ·simpa [putCells] using hsz
  intro i r hi' j v hj
  rw [Qan]at hi'
  obtain⟨x,hx,rfl⟩:=Qaq.1 hi'
  have hil:i<(Qes zs).length:=(QQ.1 hx).1
  have hil':i<zs.length:=by omega
  match j,hj with
  | 0,hj=>
   cases hj
   refine⟨.int .i64 x,?_,.i _ _⟩
   rw [show i*1+0=i by omega]
   have h1:=hc i zs[i] (QD hil')
   have h2:D[i]! = x:=by
    subst hD
    rw [getElem!_pos _ i (by simp;omega)]
    obtain⟨h3,h4⟩:=QQ.1 hx
    simp [List.getElem_append,h3,h4]
   simp only [putCells,Array.getElem?_mapIdx,h1,QdY]
   rw [if_pos ⟨by omega,by omega⟩,show B.off+i-B.off=i by omega,h2]
  | j+1,hj=>simp [Qjw]at hj
 rw [Qr _ _ e]at h;cases h
def QzN (s:ByteArray):Bool:=decide (s.size<4294967281)&&s.data.toList.all fun b=>decide (b.toNat<128)
def Qg9 (s:ByteArray):List ByteArray:=(Lib.fields s.data.toList).map fun l=>⟨l.toArray⟩
theorem QyZ {P:Program}{ρ:Ren}(Ly:Lays.n157 P ρ)(hi9:(P.info? (ρ.t 9)).map (fun i=>(i.zero,i.size,i.bytes))=some (some (.string ByteArray.empty),1,16))(hg:P.globalNamed "strings.asciiSpace" = some (ρ.g 0))(s:ByteArray)(hs:QzN s=true):
  Qd P (ρ.f 157) [.s s] [] (Gives (.own 600 (Qg9 s).length) [(600,.arr 1 ((Qg9 s).map fun x=>[V.s x]))]):=by
 intro S φ w vals hi hG
 have hsz:=hi.size
 obtain⟨v0,hv0⟩:∃v0,vals=#[v0]:=by
  obtain⟨l⟩:=vals
  match l,hsz with
  | [x],_=>exact⟨x,rfl⟩
 subst hv0
 have ha:=(hi.args 0 v0 _ rfl rfl).s_inv
 subst ha
 unfold QzN at hs
 rw [Qz,decide_eq_true_iff,Qac]at hs
 obtain⟨hs1,hs2⟩:=hs
 obtain⟨_,hl,hT⟩:=hG _ hg
 have hno:∀o B,φ o≠some B:=fun o B h=>by obtain⟨_,_,ob,hob⟩:=hi.dom o B h;cases hob
 refine(Any.strings_Fields_core Ly hi9 s w hs1 (fun j b hb=>by simpa using hs2 b (QaL hb)) hT).mono ?_
 rintro e w' ⟨rfl,rfl⟩
 have hlen:(Lib.fields s.data.toList).length=(Qg9 s).length:=by unfold Qg9;simp
 rw [hlen]
 generalize hO:Obj.cells ((Lib.fields s.data.toList).map fun l=>Value.string ⟨l.toArray⟩).toArray (ρ.t 9)=O
 have hme:(w.alloc O).heap[w.heap.size]? = some O:=World.alloc_heap_new _ _
 have hold:∀k,k<w.heap.size→(w.alloc O).heap[k]? = w.heap[k]? := fun k hk=>Below.heap_alloc w O k hk
 have hsize:(w.alloc O).heap.size=w.heap.size+1:=by simp
 have hφ:∀o B,(ext (fun _=>none) 600 ⟨w.heap.size,(Qg9 s).length,1,[],0⟩) o=some B→o=600∧B=⟨w.heap.size,(Qg9 s).length,1,[],0⟩:=fun o B h=>by
  unfold ext at h
  split at h
  ·rename_i e;exact⟨e,(Option.some.inj h).symm⟩
  cases h
 have hhas:∀k,(⟨w.heap.size,(Qg9 s).length,1,[],0⟩:Blk).has k→k=w.heap.size:=fun k hk=>QpG hk
 refine⟨_,.own 600 (Qg9 s).length,[(600,.arr 1 ((Qg9 s).map fun x=>[V.s x]))],ext (fun _=>none) 600 ⟨w.heap.size,(Qg9 s).length,1,[],0⟩,rfl,⟨rfl,fun c ob h=>h⟩,rfl,rfl,rfl,by rw [hsize];omega,fun k hk _=>hold k hk,fun o o' B B' k h1 h2 _ _=>by rw [(hφ o B h1).1,(hφ o' B' h2).1],fun o B h=>?_,fun o B k h hk=>?_,fun o B k h hk _=>?_,⟨fun o B h1 h2=>by obtain⟨rfl,_⟩:=hφ o B h2;omega,fun o ob B _ h2 h3=>absurd h3 (hno o B)⟩,.own _ _ _ (Q4 _ _ _) (QbY _),fun o ob h=>?_⟩
 ·rw [(hφ o B h).1];exact⟨_,Qu _ _ _⟩
 ·obtain⟨_,rfl⟩:=hφ o B h
  have:=hhas k hk
  rw [hsize];exact⟨by omega,fun h=>by omega⟩
 ·obtain⟨_,rfl⟩:=hφ o B h
  have:=hhas k hk;omega
 by_cases e:600=o
 ·subst e
  rw [Qu]at h;cases h
  refine .inl ⟨_,Q4 _ _ _,rfl,by simp,fun r hr=>?_,_,_,by rw [hme,←hO],by rw [←hlen];simp,fun i r hi' j v hj=>?_⟩
  ·obtain⟨x,_,rfl⟩:=QG.1 hr
   exact⟨rfl,fun v hv=>by simp at hv;subst hv;rfl⟩
  rw [Qan]at hi'
  obtain⟨x,hx,rfl⟩:=Qaq.1 hi'
  match j,hj with
  | 0,hj=>
   cases hj
   refine⟨.string x,?_,.s _⟩
   unfold Qg9 at hx
   rw [Qan]at hx
   obtain⟨l,hl',rfl⟩:=Qaq.1 hx
   simp [hl']
  | j+1,hj=>simp at hj
 rw [Qr _ _ e]at h;cases h
section
variable {P:Program}{C:Ctx}{σ:St}{o:Oper}
theorem Stp.storeNil {T b i off z zz:Nat}{x y:Operand}{rs rs':List (List V)}{r:List V}(ho:o.op=.store T x y)(hd:o.dst=none)(hx:σ.opd x=some (.loc b i off))
  (hb:look σ.hp b=some (.arr z rs)) (hi:rs[i]? = some r) (hy:σ.opd y=some (.lit (.slice none 0 0))) (hs:Qhg P T=some 1) (hle:Nat.ble (off+1) z=true) (he:rs.set i (QcJ r off [.sl zz []])=rs'):Stp P C o σ (σ.set b (.arr z rs')):=
 Stp.storeAV (v:=.sl zz []) ho hd hx hb hi (fun φ a w hr=>by rw [(hr.opd hy).lit_inv];exact .dat (.sl0 none 0 zz)) (.inl rfl) hs rfl rfl rfl hle he
theorem Stp.max3 {d:Nat}{x y z:Operand}{k:IntKind}{m n q:Int}{ts:Array TypeId}(ho:o.op=.call { callee:=.builtin .max,args:=#[x,y,z],argTypes:=ts })(hd:o.dst=some d)(hn:Nat.ble (d+1) C.n=true)
  (hx:σ.opd x=some (.i k m)) (hy:σ.opd y=some (.i k n)) (hz:σ.opd z=some (.i k q)):Stp P C o σ (σ.put d (.i k (Vm.max2 (Vm.max2 m n) q))):=by
 refine Stp.same hd hn fun φ a w hr=>⟨.int k (Vm.max2 (Vm.max2 m n) q),?_,.dat (.i _ _)⟩
 simp [execOp,ho,(hr.opd hx).i_inv,(hr.opd hy).i_inv,(hr.opd hz).i_inv,resolve,invoke,builtin,Builtin.max_,Builtin.max2,Vm.max2]
end
end Go.Vm
namespace Go.Vm
open Go Go.RowKit
def Cl (w:World)(cs:List Value)(vs:List V):Prop:=cs.length=vs.length∧∀(j:Nat) c v,cs[j]? = some c→vs[j]? = some v→Dat (fun k=>k<w.heap.size) w c v
theorem Cl.nil {w:World}:Cl w [] []:=⟨rfl,fun j c v h _=>by simp at h⟩
theorem Cl.one {w:World}{c:Value}{v:V}(h:Dat (fun k=>k<w.heap.size) w c v):Cl w [c] [v]:=⟨rfl,fun j c' v' h1 h2=>by
 match j with
 | 0=>simp at h1 h2;subst h1;subst h2;exact h
 | j+1=>simp at h1⟩
theorem Cl.append {w:World}{a b:List Value}{u v:List V}(h1:Cl w a u)(h2:Cl w b v):Cl w (a++b) (u++v):=by
 refine⟨by simp [h1.1,h2.1],fun j c x hc hx=>?_⟩
 by_cases hj:j<a.length
 ·rw [QbR hj]at hc
  rw [QbR (by rw [←h1.1];exact hj)]at hx
  exact h1.2 j c x hc hx
 rw [Qcm (by omega)]at hc
 rw [Qcm (by rw [←h1.1];omega)]at hx
 rw [←h1.1]at hx
 exact h2.2 _ c x hc hx
def Rd {H α:Type}(enc:TypeId×Value→H)(P:Program)(w:World)(N:Nat)(t:TypeId)(row:α→List V)(wf:α→DataW H→Prop):Prop:=
 ∀(fuel:Nat) (cs:List Value) (d:DataW H) (ps:List MemPlace),fuel≤N→DataW.trod enc P w 0 (fun _=>true) true fuel t cs=some (d,ps)→∃x,wf x d∧Cl w cs (row x)
def RdF {H α:Type}(enc:TypeId×Value→H)(P:Program)(w:World)(N:Nat)(off tot:Nat)(fs:List (Nat×Nat))(row:α→List V)(wf:α→List (DataW H)→Prop):Prop:=
 ∀(fuel:Nat) (cs:List Value) (xs:List (DataW H×List MemPlace)),fuel≤N→cs.length=off+tot→(fs.mapM fun f=>DataW.trod enc P w 0 (fun _=>true) true fuel f.1 ((cs.drop f.2).take (P.cellsOf f.1)))=some xs→
  ∃x,wf x (xs.map Prod.fst)∧Cl w (cs.drop off) (row x)
section
variable {H:Type}{enc:TypeId×Value→H}{P:Program}{w:World}{N:Nat}{t:TypeId}
theorem Rd.mono {α:Type}{M:Nat}{row:α→List V}{wf:α→DataW H→Prop}(h:Rd enc P w N t row wf)(hM:M≤N):Rd enc P w M t row wf:=fun fuel cs d ps hf e=>h fuel cs d ps (Qaw hf hM) e
theorem Rd.zero {α:Type}{row:α→List V}{wf:α→DataW H→Prop}:Rd enc P w 0 t row wf:=fun fuel cs d ps hf e=>by
 have:fuel=0:=by omega
 subst this
 simp [DataW.trod]at e
theorem Rd.map {α β:Type}{row:α→List V}{wf:α→DataW H→Prop}{row':β→List V}{wf':β→DataW H→Prop}(g:α→β)(h:Rd enc P w N t row wf)(hr:∀x,row x=row' (g x))(hw:∀x d,wf x d→wf' (g x) d):Rd enc P w N t row' wf':=fun fuel cs d ps hf e=>by
 obtain⟨x,h1,h2⟩:=h fuel cs d ps hf e
 exact⟨g x,hw x d h1,by rw [←hr];exact h2⟩
theorem Rd.int {k:IntKind}(ht:P.underlying t=some (.int k)):Rd enc P w N t (fun n:Int=>[V.i k n]) (fun n d=>(Lit.int k n).wf=true∧d=.lit (.int k n)):=by
 intro fuel cs d ps _ e
 cases fuel with
 | zero=>simp [DataW.trod]at e
 | succ fuel=>
  simp only [DataW.trod,ht]at e
  split at e
  all_goals first | (cases e;done) | (rename_i hq;cases hq;done) | skip
  rename_i hq
  cases hq
  split at e
  ·rename_i hc
   obtain⟨rfl,hwf⟩:=hc
   cases e
   exact⟨_,⟨hwf,rfl⟩,Cl.one (.i _ _)⟩
  cases e
theorem Rd.bool (ht:P.underlying t=some .bool):Rd enc P w N t (fun n:Bool=>[V.b n]) (fun n d=>d=.lit (.bool n)):=by
 intro fuel cs d ps _ e
 cases fuel with
 | zero=>simp [DataW.trod]at e
 | succ fuel=>
  simp only [DataW.trod,ht]at e
  split at e
  all_goals first | (cases e;done) | (rename_i hq;cases hq;done) | skip
  cases e
  exact⟨_,rfl,Cl.one (.b _)⟩
theorem Rd.string (ht:P.underlying t=some .string):Rd enc P w N t (fun n:ByteArray=>[V.s n]) (fun n d=>n.size≤maxLen∧d=.lit (.string n.data.toList)):=by
 intro fuel cs d ps _ e
 cases fuel with
 | zero=>simp [DataW.trod]at e
 | succ fuel=>
  simp only [DataW.trod,ht]at e
  split at e
  all_goals first | (cases e;done) | (rename_i hq;cases hq;done) | skip
  split at e
  ·rename_i hc
   cases e
   exact⟨_,⟨hc,rfl⟩,Cl.one (.s _)⟩
  cases e
theorem QEC {α:Type}{Q:Nat→α→Prop}:∀n:Nat,(∀i,i<n→∃x,Q i x)→∃l:List α,l.length=n∧∀i x,l[i]? = some x→Q i x:=by
 intro n
 induction n with
 | zero=>intro _;exact⟨[],rfl,fun i x h=>by simp at h⟩
 | succ n ih=>
  intro h
  obtain⟨l,h1,h2⟩:=ih fun i hi=>h i (by omega)
  obtain⟨x,hx⟩:=h n (by omega)
  refine⟨l++[x],by simp [h1],fun i y hy=>?_⟩
  by_cases hi:i<l.length
  ·rw [QbR hi]at hy;exact h2 i y hy
  have:=(QQ.1 hy).1
  simp at this
  have:i=l.length:=by omega
  subst this
  simp at hy;subst hy;rw [h1];exact hx
def wfL {α:Type}(wf:α→DataW H→Prop)(l:List α)(d:DataW H):Prop:=l.length≤maxLen∧((d=.nil∧l=[])∨∃es sp,d=.slice es sp∧es.length=l.length∧∀(i:Nat) x e,l[i]? = some x→es[i]? = some e→wf x e)
theorem Rd.slice {α:Type}{e z:Nat}{row:α→List V}{wf:α→DataW H→Prop}(ht:P.underlying t=some (.slice e))(hz:P.cellsOf e=z)(hz0:0<z)(hrow:∀x,QiE z (row x))(he:Rd enc P w N e row wf):
  Rd enc P w N t (fun l:List α=>[V.sl z (l.map row)]) (wfL wf):=by
 subst hz
 intro fuel cs d ps hN h
 cases fuel with
 | zero=>simp [DataW.trod]at h
 | succ fuel=>
  simp only [DataW.trod,ht]at h
  split at h
  all_goals first | (cases h;done) | (rename_i hq;cases hq;done) | skip
  ·cases h;exact⟨[],⟨Nat.zero_le _,.inl ⟨rfl,rfl⟩⟩,Cl.one (.sl0 _ _ _)⟩
  rename_i a len cap hq
  cases hq
  split at h
  ·rename_i hc
   obtain⟨_,hlc,hcm⟩:=hc
   obtain⟨elems,hel,h⟩:=Qnd.1 h
   obtain⟨rest,_,h⟩:=Qaq.1 h
   have hlen:elems.length=len:=by simpa using mapM_some_length hel
   have hat:∀i,i<len→∃y rc,elems[i]? = some y∧w.cells? 0 (a.add (i*P.cellsOf e)) (P.cellsOf e)=some rc∧DataW.trod enc P w 0 (fun _=>true) true fuel e rc=some y:=fun i hi=>by
    have:=mapM_some_get hel i i (by simp [hi])
    obtain⟨y,hy⟩:∃y,elems[i]? = some y:=⟨_,QD (by omega)⟩
    rw [hy]at this
    obtain⟨rc,h1,h2⟩:=Qnd.1 this
    exact⟨y,rc,hy,h1,h2⟩
   obtain⟨l,hl,hQ⟩:=QEC (Q:=fun i x=>∃y rc,elems[i]? = some y∧w.cells? 0 (a.add (i*P.cellsOf e)) (P.cellsOf e)=some rc∧wf x y.1∧Cl w rc (row x)) len fun i hi=>by
    obtain⟨y,rc,h1,h2,h3⟩:=hat i hi
    obtain⟨x,h4,h5⟩:=he fuel rc y.1 y.2 (by omega) h3
    exact⟨x,y,rc,h1,h2,h4,h5⟩
   have hd:d=.slice (elems.map (·.1)) (rest.map (·.1)):=by cases h;rfl
   refine⟨l,⟨by omega,.inr ⟨_,_,hd,by simp [hl,hlen],fun i x e' hx he'=>?_⟩⟩,Cl.one ?_⟩
   ·obtain⟨y,rc,h1,_,h3,_⟩:=hQ i x hx
    rw [Qan,h1]at he'
    cases he';exact h3
   by_cases h0:len=0
   ·have:l=[]:=QqV.1 (by omega)
    subst this;subst h0;exact .sl0 _ _ _
   obtain⟨b,off,spot⟩:=a
   obtain⟨y0,rc0,_,h02,_⟩:=hat 0 (by omega)
   have hs:spot=none:=by
    obtain⟨_,h2,h3⟩:=World.cells?_some h02
    have h4:=h3 0 hz0
    obtain⟨c0,hc0⟩:∃c0,rc0[0]? = some c0:=⟨_,QD (by omega)⟩
    rw [hc0]at h4
    simpa [Addr.add] using World.cell?_spot h4
   subst hs
   have hb:b<w.heap.size:=by
    have hb:=World.cells?_block h02 hz0
    rwa [WideShapes.add_plain]at hb
   have hcell:∀i,i<len→∀rc,w.cells? 0 ((⟨b,off,none⟩:Addr).add (i*P.cellsOf e)) (P.cellsOf e)=some rc→rc.length=P.cellsOf e∧∀j,j<P.cellsOf e→w.cell? ⟨b,off+(i*P.cellsOf e+j),none⟩=rc[j]? := fun i hi rc h=>by
    obtain⟨_,h2,h3⟩:=World.cells?_some h
    refine⟨h2,fun j hj=>?_⟩
    have:=h3 j hj
    rw [WideShapes.add_plain,WideShapes.add_plain]at this
    rw [←Qpq];exact this
   refine .sl b off len cap (P.cellsOf e) (l.map row) (fun j=>(w.cell? ⟨b,off+j,none⟩).getD undef) hb (by simp [hl]) hlc (fun r hr=>by obtain⟨x,_,rfl⟩:=QG.1 hr;exact hrow x) (fun j hj=>?_) (fun i r hr j v hv=>?_)
   ·have hij:j / P.cellsOf e<len:=Nat.div_lt_of_lt_mul (by rw [QlY];exact hj)
    obtain⟨y,rc,_,h2,_⟩:=hat (j / P.cellsOf e) hij
    obtain⟨h3,h4⟩:=hcell _ hij rc h2
    have h5:=h4 (j % P.cellsOf e) (Nat.mod_lt _ hz0)
    rw [QlY (j / P.cellsOf e),Nat.div_add_mod]at h5
    rw [h5]
    have:j % P.cellsOf e<rc.length:=by rw [h3];exact Nat.mod_lt _ hz0
    rw [QD this];rfl
   rw [Qan]at hr
   obtain⟨x,hx,rfl⟩:=Qaq.1 hr
   have hi:i<len:=by rw [←hl];exact(QQ.1 hx).1
   obtain⟨y,rc,_,h2,_,h3⟩:=hQ i x hx
   obtain⟨h4,h5⟩:=hcell i hi rc h2
   have hj:j<P.cellsOf e:=by rw [←(hrow x).1];exact(QQ.1 hv).1
   have h6:=h5 j hj
   obtain⟨c,hc⟩:∃c,rc[j]? = some c:=⟨_,QD (by omega)⟩
   rw [hc]at h6
   show Dat _ w ((w.cell? ⟨b,off+(i*P.cellsOf e+j),none⟩).getD undef) v
   rw [h6]
   exact h3.2 j c v hc hv
  cases h
theorem RdF.nil {off:Nat}:RdF enc P w N off 0 [] (fun _:Unit=>[]) (fun _ xs=>xs=[]):=fun fuel cs xs _ hl h=>by
 simp at h
 subst h
 exact⟨(),rfl,by rw [List.drop_of_length_le (by omega)];exact Cl.nil⟩
theorem RdF.cons {α β:Type}(t off z:Nat){tot:Nat}{fs:List (Nat×Nat)}{row1:α→List V}{row2:β→List V}{wf1:α→DataW H→Prop}{wf2:β→List (DataW H)→Prop}(hz:P.cellsOf t=z)
  (h1:Rd enc P w N t row1 wf1) (h2:RdF enc P w N (off+z) tot fs row2 wf2):RdF enc P w N off (z+tot) ((t,off)::fs) (fun x:α×β=>row1 x.1++row2 x.2) (fun x ds=>∃d r,ds=d::r∧wf1 x.1 d∧wf2 x.2 r):=by
 intro fuel cs xs hN hl h
 subst hz
 rw [List.mapM_cons]at h
 obtain⟨y,hy,h⟩:=Qnd.1 h
 obtain⟨ys,hys,h⟩:=Qnd.1 h
 cases h
 obtain⟨x1,a1,a2⟩:=h1 fuel _ y.1 y.2 hN hy
 obtain⟨x2,b1,b2⟩:=h2 fuel cs ys hN (by omega) hys
 refine⟨(x1,x2),⟨y.1,ys.map Prod.fst,rfl,a1,b1⟩,?_⟩
 have:cs.drop off=(cs.drop off).take (P.cellsOf t)++cs.drop (off+P.cellsOf t):=by
  rw [←List.drop_drop,List.take_append_drop]
 rw [this]
 exact a2.append b2
def Qvq (P:Program)(t:TypeId)(fs:List (Nat×Nat))(tot:Nat):Bool:=match P.underlying t with
 | some (.struct gs)=>(gs.toList.map fun f=>(f.type,f.offset))==fs&&P.cellsOf t==tot
 | _=>false
theorem Qv5 {t tot:Nat}{fs:List (Nat×Nat)}(h:Qvq P t fs tot=true):∃gs,P.underlying t=some (.struct gs)∧(gs.toList.map fun f=>(f.type,f.offset))=fs∧P.cellsOf t=tot:=by
 unfold Qvq at h
 split at h
 ·rename_i gs hg
  rw [Qz,beq_iff_eq,beq_iff_eq]at h
  exact⟨gs,hg,h.1,h.2⟩
 cases h
theorem Rd.struct {α:Type}{fs:List (Nat×Nat)}{tot:Nat}{row:α→List V}{wf:α→List (DataW H)→Prop}(hB:Qvq P t fs tot=true)(hf:RdF enc P w N 0 tot fs row wf):
  Rd enc P w (N+1) t row (fun x d=>∃ds,d=.agg ds∧wf x ds):=by
 obtain⟨gs,ht,hfs,hc⟩:=Qv5 hB
 intro fuel cs d ps hN h
 cases fuel with
 | zero=>simp [DataW.trod]at h
 | succ fuel=>
  simp only [DataW.trod,ht]at h
  split at h
  ·rename_i hl
   obtain⟨xs,hxs,h⟩:=Qaq.1 h
   cases h
   obtain⟨x,a1,a2⟩:=hf fuel cs xs (by omega) (by rw [hl,hc];omega) (by rw [←hfs,List.mapM_map];exact hxs)
   exact⟨x,⟨_,rfl,a1⟩,a2⟩
  cases h
def QzO (P:Program)(t e n tot:Nat)(fs:List (Nat×Nat)):Bool:=match P.underlying t with
 | some (.array m e')=>m==n&&e'==e&&P.cellsOf t==tot&&((List.range n).map fun i=>(e,i*P.cellsOf e))==fs
 | _=>false
theorem QBu {t e n tot:Nat}{fs:List (Nat×Nat)}(h:QzO P t e n tot fs=true):P.underlying t=some (.array n e)∧P.cellsOf t=tot∧((List.range n).map fun i=>(e,i*P.cellsOf e))=fs:=by
 unfold QzO at h
 split at h
 ·rename_i m e' hg
  simp only [Qz,beq_iff_eq]at h
  obtain⟨⟨⟨rfl,rfl⟩,h⟩,h2⟩:=h
  exact⟨hg,h,h2⟩
 cases h
theorem Rd.array {α:Type}{e n tot:Nat}{fs:List (Nat×Nat)}{row:α→List V}{wf:α→List (DataW H)→Prop}(hB:QzO P t e n tot fs=true)(hf:RdF enc P w N 0 tot fs row wf):
  Rd enc P w (N+1) t row (fun x d=>∃ds,d=.agg ds∧wf x ds):=by
 obtain⟨ht,hc,hfs⟩:=QBu hB
 intro fuel cs d ps hN h
 cases fuel with
 | zero=>simp [DataW.trod]at h
 | succ fuel=>
  simp only [DataW.trod,ht]at h
  split at h
  ·rename_i hl
   obtain⟨xs,hxs,h⟩:=Qaq.1 h
   cases h
   obtain⟨x,a1,a2⟩:=hf fuel cs xs (by omega) (by rw [hl,hc];omega) (by rw [←hfs,List.mapM_map];exact hxs)
   exact⟨x,⟨_,rfl,a1⟩,a2⟩
  cases h
def okI (k:IntKind)(n:Int):Prop:=k.min≤n∧n≤k.max
def okS (s:ByteArray):Prop:=s.size≤maxLen
def okL {α:Type}(ok:α→Prop)(l:List α):Prop:=l.length≤maxLen∧∀x∈l,ok x
theorem QED {k:IntKind}{n:Int}{d:DataW H}(h:(Lit.int k n).wf=true∧d=.lit (.int k n)):okI k n:=by
 have:=h.1
 simp only [Lit.wf,Qz,Qx]at this
 exact this
theorem Qkz {α:Type}{ok:α→Prop}{l:List α}{d:DataW H}(h:wfL (fun x _=>ok x) l d):okL ok l:=by
 refine⟨h.1,fun x hx=>?_⟩
 rcases h.2 with⟨_,rfl⟩|⟨es,sp,_,h3,h4⟩
 ·simp at hx
 obtain⟨i,hi⟩:=Qpo.1 hx
 have hlt:i<es.length:=by rw [h3];exact(QQ.1 hi).1
 exact h4 i x _ hi (QD hlt)
theorem QDg {w:World}{r:Reach}{base t tot:Nat}{v:Value}{fs:List (Nat×Nat)}(h:Qvq P t fs tot=true)(hv:Value.okWide P w r base t v):∃cs,v=.agg cs:=by
 obtain⟨gs,h1,_⟩:=Qv5 h
 obtain⟨cs,h2,_⟩:=WideShapes.okWide_struct h1 hv
 exact⟨cs,h2⟩
theorem Ql1 {z:Nat}{r:List V}(h:(Nat.beq r.length z&&r.all V.one)=true):QiE z r:=by
 rw [Qz,Qac]at h
 exact⟨QaM h.1,h.2⟩
end
section
variable {H:Type}{enc:TypeId×Value→H}{P:Program}
theorem Qd.law {f:FuncId}{us:List V}{args:Array Value}{W:World}(h:Qd P f us [] (Gives (.b true) []))(hG:QpS P (fun k=>k<W.heap.size) W)(hs:args.size=us.length)
  (ha:∀(j:Nat) x v,args[j]? = some x→us[j]? = some v→Dat (fun k=>k<W.heap.size) W x v):Calls P f args W fun e w'=>e=.returned (.bool true)∧Below W.heap.size W w':=by
 refine(h (fun k=>k<W.heap.size) (fun _=>none) W args ⟨fun k hk=>hk,fun _ _ _ _ _ h=>(by cases h),fun _ _ h=>(by cases h),hs,fun j x v h1 h2=>.dat (ha j x v h1 h2),fun _ _ h=>(by cases h)⟩ hG).mono ?_
 rintro e w' ⟨x,v,hs',φ',rfl,⟨rfl,_⟩,out⟩
 exact⟨by rw [out.rep.b_inv],out.os,out.tape,out.output,out.size,fun k hk=>out.kept k hk fun _ _ h=>by cases h⟩
theorem QtA (hl:laidOutB P=true){W W':World}(hb:Below W.heap.size W W'):∀{ts:List TypeId} {vs:List Value} {ds:List (DataW H)} {ps:List MemPlace},(∀t∈ts,P.readableRec t=true∧t<P.types.size)→
  DataW.TrodAll enc P W 0 (fun _=>true) true ts vs ds ps→(∀x∈ps,x.block<W.heap.size)→DataW.TrodAll enc P W' 0 (fun b=>decide (b<W.heap.size)) true ts vs ds ps
 | [],[],[],_,_,h,_=>h
 | t::ts,v::vs,d::ds,_,hr,⟨p,q,h1,h2,e⟩,hlt=>⟨p,q,Below.trod hl (hr t (Q5)).1 (hr t (Q5)).2 h1 hb (fun x hx=>hlt x (by rw [e];exact Qok _ hx)),
   QtA hl hb (fun t ht=>hr t (Qab _ ht)) h2 (fun x hx=>hlt x (by rw [e];exact QwR _ hx)),e⟩
theorem QDh {f:Func}{s:ChangeSpec}{apart fresh:Bool}{W W':World}{args:Array Value}{ds:List (DataW H)}{before:List MemPlace}{tb:TypeId}(hl:laidOutB P=true)(hr:∀t∈f.params.toList,P.readableRec t=true∧t<P.types.size)
  (hW:DataW.Whole enc P f.params.toList s.vars apart W args.toList ds [] before) (hv:s.vars=[]) (hb:Below W.heap.size W W') (hrt:f.resultTypes=#[tb]) (htb:P.underlying tb=some .bool)
  (hres:(s.fn H (ds++[])).results=[.lit (.bool true)]) (hargs:(s.fn H (ds++[])).args=ds) (hvars:(s.fn H (ds++[])).vars=[]):s.post enc P f apart fresh false false W args (.bool true) W':=by
 have hW0:=hW
 obtain⟨p,q,hA,hV,rfl,_,_⟩:=hW
 have hlt:=hW0.lt
 rw [hv]at hV
 have hq:q=[]:=hV
 subst hq
 refine⟨ds,[],_,[],p,[],hW0,?_,?_,?_,?_,fun h=>by cases h⟩
 ·rw [hres,hrt]
  exact⟨[],[],shut_bool htb true,rfl,rfl⟩
 ·rw [hargs]
  exact QtA hl hb hr hA fun x hx=>hlt x (Qok _ hx)
 ·rw [hvars,hv];rfl
 exact World.keptBut_mono (fun p hp=>hp.elim) (hb.frame (fun _=>False))
theorem Cl.arg1 {w:World}{v:Value}{x:V}(hv:v.cells.toList=[v])(h:Cl w v.cells.toList [x]):Dat (fun k=>k<w.heap.size) w v x:=h.2 0 v x (by rw [hv];rfl) rfl
theorem Cl.argS {w:World}{cs:Array Value}{vs:List V}(h:Cl w (Value.agg cs).cells.toList vs):Dat (fun k=>k<w.heap.size) w (.agg cs) (.agg vs):=by
 refine .agg cs vs (by simpa [Value.cells] using h.1) fun j x v hx hv=>h.2 j x v (by simpa [Value.cells] using hx) hv
theorem Rd.open {α:Type}{w:World}{t:TypeId}{row:α→List V}{wf:α→DataW H→Prop}{v:Value}{d:DataW H}{p:List MemPlace}(h:∀N,Rd enc P w N t row wf)(hd:DataW.Trod enc P w 0 (fun _=>true) true t v d p):∃x,wf x d∧Cl w v.cells.toList (row x):=by
 obtain⟨n,hn⟩:=hd
 exact h n n _ _ _ (QbY _) hn
end
end Go.Vm
namespace Go.Vm
open Go Go.RowKit
section
variable {P:Program}{C:Ctx}{Q:Exit→St→Prop}{σ:St}{ks:List Fr}{o:Oper}
theorem QyC {σ':St}{φ φ':Prop}{d f:Nat}{vs us:List V}{M N:List (Nat×Nat)}{dead:List Nat}{ms:List Qgh}{outs hsC:List (Nat×Ob)}{r:V}
  (hus:Qms (bkM M) ms vs=some us) (hC:Qic (bkM M) (look σ.hp) M=some hsC)
  (e:cmV P σ φ d f vs M N dead ms outs r=some (σ',φ')):∃hsN r',Qdf σ M N dead outs=true∧(M.map Prod.fst).Nodup∧Vws σ.hp false false (Qfy M) (fun a b=>look M b=some a) vs us∧QlN σ.hp false false (Qfy M) (fun a b=>look M b=some a) σ.hp M hsC∧
   QlN [] false false [] (fun c b=>look N b=some c) outs N hsN∧Vw [] false false [] (fun c b=>look N b=some c) r r'∧σ'=(σ.after dead hsN).put d r':=by
 unfold cmV at e
 replace e:=Qag e;obtain⟨e1,e⟩:=e
 simp only [Qz]at e1
 obtain⟨⟨h1,h2⟩,h3⟩:=e1
 have h2:=Qcb.1 h2
 have h3:=Qcb.1 h3
 have inj:Qhy M=true∧Qhy N=true:=by
  simp only [Qdf,Qz]at h1
  exact⟨h1.1.1.1,h1.1.1.2⟩
 have mM:∀a b,bkM M a=some b→look M b=some a:=fun a b h=>Qbl inj.1 (Qfj h) h2
 have mN:∀a b,bkM N a=some b→look N b=some a:=fun a b h=>Qbl inj.2 (Qfj h) h3
 simp only [hus,hC]at e
 split at e
 ·rename_i hsN hN
  split at e
  ·rename_i r' hr
   cases e
   exact⟨hsN,r',h1,h2,Qhz mM hus,QcD mM hC,QcD mN hN,Qku mN hr,rfl⟩
  cases e
 cases e
theorem AK.callE {ι:Type}[Inhabited ι]{Φ:ι→Prop}{d f n:Nat}{ops:Array Oper}{rest:List Oper}{vs us:List V}{hsC:List (Nat×Ob)}(M N:List (Nat×Nat))(dead:List Nat)(ms:List Qgh)(outs:ι→List (Nat×Ob))(r:ι→V)(σ':ι→St)
  (hg:o.guard=none) (hCn:Qfi P C n) (hE:QbW P C o σ f vs) (hd:o.dst=some d) (hn:Nat.ble (d+1) C.n=true)
  (hus:Qms (bkM M) ms vs=some us) (hC:Qic (bkM M) (look σ.hp) M=some hsC)
  (hc:Qd P f us hsC fun v hs=>∃x,Φ x∧Gives (r x) (outs x) v hs)
  (e:∀x,∃φ',cmV P σ True d f vs M N dead ms (outs x) (r x)=some (σ' x,φ'))
  (k:∀x,Φ x→AK P C Q (.o ops rest) ks (σ' x)):AK P C Q (.o ops (o::rest)) ks σ:=by
 intro a w ⟨φ,hr⟩
 simp only [wpListIn,Region.wanted,hg,if_true]
 refine⟨fun _ _=>trivial,?_⟩
 obtain⟨vals,hex,h1,h2⟩:=hE φ a w hr
 rw [Qvj hex,Oper.uponIn_enter]
 obtain⟨_,e0⟩:=e default
 obtain⟨_,_,n1,n2,hv,hobs,_,_,_⟩:=QyC hus hC e0
 have hN0:=Names.of n1 n2
 refine⟨(fun h=>by cases h),Qr5 ((hc _ _ w _ (Ins.of_vals hr h1 h2 hN0.injM hN0.param hv hobs) ((hr.glob hCn.g).mono fun _ h=>.inl h)).mono ?_)⟩
 rintro e' w' ⟨x,v,hs',φ',rfl,⟨i,hΦ,rfl,hso⟩,hout⟩
 obtain⟨_,ei⟩:=e i
 obtain⟨hsN,r',n1,n2,_,_,hback,hr',hσ⟩:=QyC hus hC ei
 have hN:=Names.of n1 n2
 obtain⟨h3,h4⟩:=hr.after hN hout hso (fun c s h=>by
  obtain⟨ob',e1⟩:=hobs.get.2 c s h
  obtain⟨s',ob,e2,e3,_⟩:=hobs.get.1 c ob' e1
  rw [h]at e2;cases e2;exact⟨ob,e3⟩) hback
 refine k i hΦ _ _ ⟨QlO φ M N dead φ',?_⟩
 rw [hd,hσ]
 exact h3.put (Qah hn) (h4 hr')
theorem QyD {σ':St}{φ':Prop}{f:Nat}{vs us:List V}{M N:List (Nat×Nat)}{dead:List Nat}{ms:List Qgh}{outs hsC:List (Nat×Ob)}{r:V}
  (hus:Qms (bkM M) ms vs=some us) (hC:Qic (bkM M) (look σ.hp) M=some hsC)
  (e:rgV P σ f vs M N dead ms outs r=some (σ',φ')):∃hsN,Qdf σ M N dead outs=true∧(M.map Prod.fst).Nodup∧Vws σ.hp false false (Qfy M) (fun a b=>look M b=some a) vs us∧QlN σ.hp false false (Qfy M) (fun a b=>look M b=some a) σ.hp M hsC∧
   QlN [] false false [] (fun c b=>look N b=some c) outs N hsN∧σ'=σ.after dead hsN:=by
 unfold rgV at e
 replace e:=Qag e;obtain⟨e1,e⟩:=e
 simp only [Qz]at e1
 obtain⟨⟨h1,h2⟩,h3⟩:=e1
 have h2:=Qcb.1 h2
 have h3:=Qcb.1 h3
 have inj:Qhy M=true∧Qhy N=true:=by
  simp only [Qdf,Qz]at h1
  exact⟨h1.1.1.1,h1.1.1.2⟩
 have mM:∀a b,bkM M a=some b→look M b=some a:=fun a b h=>Qbl inj.1 (Qfj h) h2
 have mN:∀a b,bkM N a=some b→look N b=some a:=fun a b h=>Qbl inj.2 (Qfj h) h3
 simp only [hus,hC]at e
 split at e
 ·rename_i hsN hN
  cases e
  exact⟨hsN,h1,h2,Qhz mM hus,QcD mM hC,QcD mN hN,rfl⟩
 cases e
theorem AK.rangeFE {ι:Type}[Inhabited ι]{Φ:ι→Prop}{g:Operand}{ps:Array Tmp}{assign body:Code}{f n:Nat}{fs cps:List V}(b:Nat)(ts:List Nat)(M N:List (Nat×Nat))(dead:List Nat)(ms:List Qgh)(K:Nat→QgT)(hCn:Qfi P C n)(hrnd:C.rnd=none)(hK:∀fn,K fn=⟨fn,ps,assign,body⟩)
  (hg:σ.opd g=some (.clo (.func f) fs cps)) (he:QrH P f=true) (hb:look σ.hp b=none) (hb2:Nat.ble 615 b=false)
  (H:∀l fn,∃(outs:ι→List (Nat×Ob)) (r:ι→V) (σ2:ι→St) (us:List V) (hsC:List (Nat×Ob)),Qms (bkM M) ms (fs++(.clo (.yield l) [] []::cps))=some us∧Qic (bkM M) (look (σ.set b (.lp l (K fn) (snap ts σ.fr n) 0)).hp) M=some hsC∧
   Qd P f us hsC (fun v hs=>∃x,Φ x∧Gives (r x) (outs x) v hs)∧∀x,∃φ2 cs2 q,rgV P (σ.set b (.lp l (K fn) (snap ts σ.fr n) 0)) f (fs++(.clo (.yield l) [] []::cps)) M N dead ms (outs x) (r x)=some (σ2 x,φ2)∧look (σ2 x).hp b=some (.lp l (K fn) cs2 q)∧q≠1∧
   (Φ x→atJ (AK P C Q (.x .normal) ks ((σ2 x).kill b)) (fun c=>AK P C Q (.c c) ks ((σ2 x).kill b)) (jmp q))):AK P C Q (.c (.rangeFunc g ps assign body)) ks σ:=by
 obtain rfl:K=fun fn=>⟨fn,ps,assign,body⟩:=funext hK
 have hpg:=hCn.g
 replace hCn:=hCn.n
 subst hCn
 intro a w ⟨φ,hr⟩
 refine wpIn_rangeFunc fun fn _=>?_
 obtain⟨outs,r,σ2,us,hsC,hus,hC,hcall,hx⟩:=H (w.heap.size+1) fn
 obtain⟨xs,ys,hev,e1,e2,e3,e4⟩:=(hr.opd hg).clo_inv
 have hb3:b<615:=Qfz (by rw [hb2];rfl)
 refine⟨w.heap.size+1,[{ target:=.collected w.heap.size,args:=#[] }],(w.alloc (.deferred (some []))).alloc (.loop { state:=.ready,pending:=none,fn,tmps:=a.tmps,params:=ps,assign,body,defers:=w.heap.size }),{ target:=.fn (.func f) ys,args:=xs++#[.func (.yield (w.heap.size+1)) #[] #[]] },(w.alloc (.deferred (some []))).alloc (.loop { state:=.ready,pending:=none,fn,tmps:=a.tmps,params:=ps,assign,body,defers:=w.heap.size }),f,(xs++#[.func (.yield (w.heap.size+1)) #[] #[]])++ys,(w.alloc (.deferred (some []))).alloc (.loop { state:=.ready,pending:=none,fn,tmps:=a.tmps,params:=ps,assign,body,defers:=w.heap.size }),?_,?_,fun _ _=>trivial,?_,(fun h=>by cases h),?_⟩
 ·rw [show C.F.round=none from hrnd];exact run_enterLoop_outer _ _ _ _ _
 ·have hy:a.eval (.const (.func (.yield (w.heap.size+1)) #[] #[]))=.func (.yield (w.heap.size+1)) #[] #[]:=rfl
  simp only [resolve,hev,Deferred.ofValue,Sem.run_pure,List.map_toArray,QaZ,List.map_nil,hy]
 ·exact Qib he
 have hm:=hr.mark
 have hN0:=hm.none_of_look hb
 have hsz:(w.alloc (.deferred (some []))).heap.size=w.heap.size+1:=by simp
 have hR1:=hm.alloc (cap:=0) (z:=0) hb hb3 (ob:=.lp (w.heap.size+1) ⟨fn,ps,assign,body⟩ (snap ts σ.fr C.n) 0)
  (obj:=.loop { state:=.ready,pending:=none,fn,tmps:=a.tmps,params:=ps,assign,body,defers:=w.heap.size })
  ⟨a.tmps,w.heap.size,hsz,rfl,by rw [←hsz];exact World.alloc_heap_new _ _,by rw [hr.tmps];simp [Vm.snap],fun j x v hx hv=>(hm.snap j x v hx hv).mono (hm.mono_ext _ hN0) (hm.imm_alloc b 0 0 _ hN0)⟩
 rw [hsz]at hR1
 generalize hσ1:σ.set b (.lp (w.heap.size+1) ⟨fn,ps,assign,body⟩ (snap ts σ.fr C.n) 0)=σ1 at hR1 hx hC
 generalize hw1:(w.alloc (.deferred (some []))).alloc (.loop { state:=.ready,pending:=none,fn,tmps:=a.tmps,params:=ps,assign,body,defers:=w.heap.size })=w1 at hR1 ⊢
 have hval:(xs++#[.func (.yield (w.heap.size+1)) #[] #[]])++ys=(xs.toList++(.func (.yield (w.heap.size+1)) #[] #[]::ys.toList)).toArray:=by apply Array.ext';simp
 rw [hval]
 obtain⟨_,_,_,ed,_⟩:=hx default
 obtain⟨_,n1,n2,hv,hobs,_,_⟩:=QyD hus hC ed
 have hNm:=Names.of n1 n2
 have hfr1:σ1.fr=σ.fr:=by rw [←hσ1];rfl
 refine Qr5 ((hcall _ _ w1 _ (Ins.of_vals (g:=false) (vs:=fs++(.clo (.yield (w.heap.size+1)) [] []::cps)) hR1 (by simp [e1,e2]) (fun j x v hx hv=>?_) hNm.injM hNm.param hv hobs) ((hR1.glob hpg).mono fun _ h=>.inl h)).mono ?_)
 ·have up:=fun {x:Value} {v:V} (h:Rep φ (Imm C φ w) w x v)=>(h.mono (φ':=φ) (I':=Imm C φ (w.alloc (.deferred (some [])))) (w':=w.alloc (.deferred (some []))) (fun _ _ h=>h) fun k hk=>⟨⟨by have:=hk.1;simp;omega,hk.2⟩,Below.heap_alloc w _ k hk.1⟩).mono (hm.mono_ext ⟨w.heap.size+1,0,0,[],0⟩ hN0) (by
   have:=hm.imm_alloc b 0 0 (.loop { state:=.ready,pending:=none,fn,tmps:=a.tmps,params:=ps,assign,body,defers:=w.heap.size }) hN0
   rw [hsz,hw1]at this;exact this)
  by_cases c1:j<fs.length
  ·rw [QbR (by simpa using (by omega:j<xs.size))]at hx
   rw [QbR c1]at hv
   exact up (e3 j x v (by simpa using hx) hv)
  rw [Qcm (by simp;omega)]at hx
  rw [Qcm (by omega)]at hv
  simp only [Array.length_toList]at hx
  rw [e1]at hx
  generalize j-fs.length=i at hx hv
  cases i with
  | zero=>
   simp at hx hv;subst hx;subst hv
   exact .clo (.yield _) #[] #[] [] [] rfl rfl (fun j x v h=>by simp at h) (fun j x v h=>by simp at h)
  | succ i=>simp only [Qve]at hx hv;exact up (e4 i x v (by simpa using hx) hv)
 rintro e w' ⟨x,v,hs',φ',rfl,⟨i,hΦ,rfl,hso⟩,hout⟩
 obtain⟨_,cs2,q,ei,hq,hq1,hk⟩:=hx i
 replace hk:=hk hΦ
 obtain⟨hsN,n1,n2,_,_,hback,hσ2⟩:=QyD hus hC ei
 have hNm:=Names.of n1 n2
 obtain⟨k3,_⟩:=hR1.after hNm hout hso (fun c s h=>by
  obtain⟨ob',e1⟩:=hobs.get.2 c s h
  obtain⟨s',ob,e2,e3,_⟩:=hobs.get.1 c ob' e1
  rw [h]at e2;cases e2;exact⟨ob,e3⟩) hback
 rw [←hσ2]at k3
 obtain⟨B,hB,tmps,D,f1,f2,f3,f4,f5⟩:=k3.lp hq
 have hst:lst q≠.busy:=by
  match q,hq1 with
  | 0,_=>exact(by intro h;cases h)
  | 1,h=>exact absurd rfl h
  | k+2,_=>exact(by intro h;cases h)
 refine⟨_,_,run_endLoop f3 hst,?_⟩
 have hkill:=k3.killTo hB (w':=w'.putObj (w.heap.size+1) (.loop { state:=.exhausted,pending:=jmp q,fn,tmps,params:=ps,assign,body,defers:=D })) rfl rfl rfl World.putObj_size (fun k hk=>World.putObj_heap_other (by rw [←f1];exact hk))
 simp only
 cases hj:jmp q with
 | none=>rw [hj]at hk hkill;exact hk _ _ ⟨_,hkill⟩
 | some c=>rw [hj]at hk hkill;exact hk _ _ ⟨_,hkill⟩
end
def QBv (n:Nat)(p:Int×Int):Option (Nat⊕Empty):=some (.inl (n+1))
theorem Qwe : ∀(l:List (Int×Int)) (n:Nat),QbA QBv n l=some (.inl (n+l.length)):=by
 intro l
 induction l with
 | nil=>intro n;rfl
 | cons p l ih=>intro n;simp only [QbA,QBv,Qi,Sum.elim_inl];rw [ih];simp [Nat.add_comm,Nat.add_left_comm]
theorem QCe (l:List (Int×Int))(n:Nat):QcE QBv n l=some (.inl (n+l.length)):=Qd0.2 ⟨fun l' h=>by rw [Qwe,Qwe,h.length_eq],Qwe l n⟩
theorem QBw {l m:List Int}(h:l.Perm m):QeW l=QeW m:=by
 rw [Qs5,Qs5]
 refine List.Perm.eq_of_pairwise (le:=fun x y:Int=>x≤y) ?_ ?_ ?_ ?_
 ·intro a b _ _ h1 h2;omega
 ·exact(List.pairwise_mergeSort (le:=fun x y:Int=>decide (x≤y)) (fun a b c h1 h2=>by simp at *;omega) (fun a b=>by simp;omega) l).imp fun h=>by simpa using h
 ·exact(List.pairwise_mergeSort (le:=fun x y:Int=>decide (x≤y)) (fun a b c h1 h2=>by simp at *;omega) (fun a b=>by simp;omega) m).imp fun h=>by simpa using h
 exact((List.mergeSort_perm l _).trans h).trans (List.mergeSort_perm m _).symm
end Go.Vm
namespace Go.Vm
open Go Go.RowKit
def spZ : List Int:=(List.range 256).map fun c=>if Lib.isSp (UInt8.ofNat c)then 1 else 0
theorem QAC {P:Program}{W:World}(h:Lib.TabIs P W "strings.asciiSpace" .u8 spZ):QpS P (fun k=>k<W.heap.size) W:=fun g hg=>by
 have hc:∀c:Nat,c<256→W.cell? ⟨g,c,none⟩=some (.int .u8 (if Lib.isSp (UInt8.ofNat c)then 1 else 0)):=fun c hc=>by
  rw [h.cell hg c (by simp only [spZ,Qk0,Qvh];exact hc)]
  simp [spZ,List.getD,hc]
 have h0:g<W.heap.size:=by
  have:=hc 0 (by decide)
  apply Nat.lt_of_not_le
  intro hle
  have e:W.heap[g]? = none:=Array.getElem?_eq_none hle
  simp [World.cell?,e]at this
 exact⟨h0,h0,hc⟩
theorem QzP {P:Program}{W:World}{l r:List (String×DataW Unit)}{g:Nat}{t e:TypeId}(n:Nat)(hl:l.drop n=("strings.asciiSpace",Lib.tabData .u8 spZ)::r)(hp:(l.all fun x=>x.2.handleName?.isNone)=true)
  (hg:P.globalNamed "strings.asciiSpace" = some g) (hty:(P.globals[g]?).map (·.type)=some t) (ht:P.underlying t=some (.array 256 e)) (he:P.underlying e=some (.int .u8)) (hce:P.cellsOf e=1) (hct:P.cellsOf t=256)
  (h:laidMetH P l W):QpS P (fun k=>k<W.heap.size) W:=by
 rw [MakeChecks.laidMetH_plain _ _ _ hp]at h
 have key:∀(n:Nat) (l:List (String×DataW Unit)),laidMet P l W→laidMet P (l.drop n) W:=by
  intro n
  induction n with
  | zero=>intro l h;exact h
  | succ n ih=>
   intro l h
   cases l with
   | nil=>exact h
   | cons x l=>exact ih l h.tail
 have h2:=key n l h
 rw [hl]at h2
 exact QAC (Lib.tabIs_of_head hg hty ht he hce hct h2)
end Go.Vm
namespace Go.Vm
open Go Go.RowKit
variable {H:Type}{P:Program}
def Sz (P:Program)(t:Nat)(d:DataW H):Prop:=∀n∈d.weights P t,n≤reachBytes
theorem Sz.all {ts:List TypeId}{ds:List (DataW H)}(h:(DataW.weightsEach P ts ds).all (·≤reachBytes)=true){j:Nat}{t:Nat}{d:DataW H}(ht:ts[j]? = some t)(hd:ds[j]? = some d):Sz P t d:=fun n hn=>by
 have:=Qac.1 h n (DataW.weights_mem_each ht hd n hn)
 simpa using this
theorem Sz.field {t:Nat}{fs:Array Field}(hu:P.underlying t=some (.struct fs)){ds:List (DataW H)}(h:Sz P t (.agg ds)){j:Nat}{u:Nat}{d:DataW H}(ht:(fs.toList.map (·.type))[j]? = some u)(hd:ds[j]? = some d):Sz P u d:=fun n hn=>h n (by
 simp only [DataW.weights,hu]
 exact DataW.weights_mem_each ht hd n hn)
end Go.Vm
namespace Go.Vm
open Go Go.RowKit
theorem QeI.toMap {I:Nat→Prop}{w:World}{B:Blk}{bm clock:Nat}{L:List (Nat×(V×V))}{l:List (V×V)}(h:QeI I w B bm clock L l):QdC I w B l:=by
 obtain⟨h1,M,rfl,h2,h3,h4,h5,h6⟩:=h
 refine⟨(M.map Prod.fst).toArray,clock,h2,h3,h4,by have:=h5.length_eq;simpa using this,fun x hx=>?_,fun p hp=>?_⟩
 ·obtain⟨q,hq,rfl⟩:=QG.1 (by simpa using hx:x∈M.map Prod.fst)
  exact⟨q.2,h5.mem_iff.1 (Qvi hq),(h6 q hq).1,(h6 q hq).2⟩
 obtain⟨q,hq,rfl⟩:=QG.1 (h5.mem_iff.2 hp)
 exact⟨q.1,by simpa using (⟨q.2.1,q.2.2,hq⟩:∃a b,(q.1,a,b)∈M),(h6 q hq).1,(h6 q hq).2⟩
def QnY {κ α:Type}[DecidableEq κ](L:List (Nat×(κ×α)))(k:κ)(v:α):List (Nat×(κ×α)):=L.map fun q=>if q.2.1=k then(q.1,(k,v))else q
section
variable {κ α:Type}[DecidableEq κ]
theorem QCf {L:List (Nat×(κ×α))}{k:κ}{v:α}:(QnY L k v).map (·.2.1)=L.map (·.2.1):=by
 unfold QnY;rw [Qer];apply QjH;intro q _;simp only [Function.comp];split
 ·rename_i h;exact h.symm
 rfl
theorem Qw9 {π:Type}{L:List (Nat×π)}{seen:Array Nat}{y:Nat}:Qax L (seen.push y)=(Qax L seen).filter fun q=>!(q.1==y):=by
 unfold Qax
 rw [List.filter_filter]
 apply List.filter_congr
 intro q _
 rw [Bool.eq_iff_iff]
 simp [Array.mem_push]
 constructor
 ·rintro ⟨h1,h2⟩;exact⟨h2,h1⟩
 rintro ⟨h1,h2⟩;exact⟨h2,h1⟩
structure Qfk (L L':List (Nat×(κ×α))) (seen:Array Nat):Prop where
 keys:L'.map (·.2.1)=L.map (·.2.1)
 left:Qax L' seen=Qax L seen
theorem Qfk.refl {L:List (Nat×(κ×α))}{seen:Array Nat}:Qfk L L seen:=⟨rfl,rfl⟩
theorem Qfk.push {L L':List (Nat×(κ×α))}{seen:Array Nat}(h:Qfk L L' seen)(y:Nat):Qfk L L' (seen.push y):=⟨h.keys,by rw [Qw9,Qw9,h.left]⟩
theorem Qfk.mem2 {L L':List (Nat×(κ×α))}{seen:Array Nat}(h:Qfk L L' seen){q:Nat×(κ×α)}(hq:q∈Qax L' seen):q∈Qax L seen:=by rw [←h.left];exact hq
theorem Qfk.nil {L L':List (Nat×(κ×α))}{seen:Array Nat}(h:Qfk L L' seen)(hq:Qax L' seen=[]):Qax L seen=[]:=by rw [←h.left];exact hq
theorem Qfk.mem {L L':List (Nat×(κ×α))}{seen:Array Nat}(h:Qfk L L' seen){q:Nat×(κ×α)}(hq:q∈Qax L seen):q∈Qax L' seen:=by rw [h.left];exact hq
theorem Qfk.upd {L L':List (Nat×(κ×α))}{seen:Array Nat}{y:Nat}{k:κ}{v0 v:α}(hn:(L.map (·.2.1)).Nodup)(h:Qfk L L' seen)(hy:(y,(k,v0))∈Qax L seen):Qfk L (QnY L' k v) (seen.push y):=by
 refine⟨QCf.trans h.keys,?_⟩
 have hn':(L'.map (·.2.1)).Nodup:=by rw [h.keys];exact hn
 have hy':(y,(k,v0))∈L':=(Qhe.1 (h.mem hy)).1
 rw [←(h.push y).left]
 unfold Qax QnY
 rw [List.filter_map]
 have huniq:∀q∈L',q.2.1=k→q.1=y:=fun q hq e=>by
  obtain⟨i,hi,rfl⟩:=Qk1.1 hq
  obtain⟨j,hj,e2⟩:=Qk1.1 hy'
  have:i=j:=(List.getElem_inj (xs:=L'.map (·.2.1)) (h₀:=by simpa using hi) (h₁:=by simpa using hj) hn').1 (by simp [e,e2])
  subst this
  rw [e2]
 have e1:L'.filter ((fun q:Nat×(κ×α)=>!(seen.push y).contains q.1)∘fun q=>if q.2.1=k then(q.1,(k,v))else q)=L'.filter fun q=>!(seen.push y).contains q.1:=by
  apply List.filter_congr
  intro q _
  simp only [Function.comp]
  split<;>rfl
 rw [e1]
 have e2:∀q∈L'.filter (fun q=>!(seen.push y).contains q.1),(fun q:Nat×(κ×α)=>if q.2.1=k then(q.1,(k,v))else q) q=id q:=fun q hq=>by
  obtain⟨h1,h2⟩:=Qhe.1 hq
  by_cases c:q.2.1=k
  ·have:=huniq q h1 c
   rw [this]at h2
   simp at h2
  simp only [if_neg c,id]
 rw [QjH e2,List.map_id]
end
section
variable {P:Program}{C:Ctx}{σ:St}{o:Oper}{κ α:Type}[DecidableEq κ]
open Classical in
noncomputable def QrL (a b:V)(p:V×V):V×V:=if p.1=a then(a,b)else p
theorem QCg {e:κ→V}{f:α→V}(he:∀a b,e a=e b→a=b){k:κ}{v:α}:∀{l:List (κ×α)},(l.map Prod.fst).Nodup→(QB e f l).map (QrL (e k) (f v))=QB e f (Qgg l k v):=by
 intro l
 induction l with
 | nil=>intro _;rfl
 | cons p l ih=>
  intro hn
  obtain⟨a,x⟩:=p
  rw [QaZ,Qdo]at hn
  have hrest:a=k→(QB e f l).map (QrL (e k) (f v))=QB e f l:=fun e1=>by
   unfold QB
   rw [Qer]
   apply QjH
   intro q hq
   simp only [Function.comp,QrL]
   rw [if_neg]
   intro e2
   exact hn.1 (QG.2 ⟨q,hq,by rw [e1,←he _ _ e2]⟩)
  show QrL (e k) (f v) (e a,f x)::(QB e f l).map (QrL (e k) (f v))=QB e f (Qgg ((a,x)::l) k v)
  rw [Qgg]
  split
  ·rename_i e1
   rw [hrest e1]
   subst e1
   unfold QrL
   rw [if_pos rfl];rfl
  rename_i e1
  rw [ih hn.2]
  have:QrL (e k) (f v) (e a,f x)=(e a,f x):=by unfold QrL;rw [if_neg fun e2=>e1 (he _ _ e2)]
  rw [this];rfl
theorem QCh {e:κ→V}{f:α→V}(he:∀a b,e a=e b→a=b){k:κ}{v:α}{L:List (Nat×(κ×α))}:(Qbt e f (QnY L k v)).map Prod.snd=((Qbt e f L).map Prod.snd).map (QrL (e k) (f v)):=by
 unfold Qbt QnY
 simp only [Qer]
 apply QjH
 intro q _
 simp only [Function.comp,QrL]
 by_cases c:q.2.1=k
 ·rw [if_pos c,if_pos (by rw [c])]
 rw [if_neg c,if_neg fun e2=>c (he _ _ e2)]
theorem Stp.mapUpdateX {T b K E bm clock:Nat}{x y u:Operand}{e:κ→V}{val:κ→Value}{f:α→V}{L:List (Nat×(κ×α))}{l:List (κ×α)}{k:κ}{v v0:α}{y0:Nat}(lt:κ→κ→Bool)(ho:o.op=.mapUpdate T x y u)(hd:o.dst=none)
  (hx:σ.opd x=some (.map b)) (hb:look σ.hp b=some (.mapX bm clock (Qbt e f L) (QB e f l))) (hy:σ.opd y=some (e k)) (hu:σ.opd u=some (f v)) (hT:QnW P T=some (K,E)) (hk:QfL P K e val) (hv:(f v).dat=true) (hin:(y0,(k,v0))∈L):
  Stp P C o σ (σ.set b (.mapX bm clock (Qbt e f (QnY L k v)) (QB e f (QaR lt l k v)))):=by
 refine Stp.skp fun φ a w hr=>?_
 obtain⟨B,hB,he⟩:=(hr.opd hx).map_inv
 have hyv:a.eval y=val k:=hk.inv _ _ _ _ ((hr.opd hy).toDat (hk.edat k))
 have huv:=(hr.opd hu).toDat hv
 obtain⟨D,hD,_⟩:=hk.d
 have hrep:QeI (Imm C φ w) w B bm clock (Qbt e f L) (QB e f l):=hr.block hB hb
 obtain⟨es,clock',h1,h2,h3,h4,h5,h6⟩:=QdC.find hk hD hrep.toMap k
 obtain⟨g0,M,hML,r2,r3,r4,r5,r6⟩:=hrep
 rw [h1]at r2
 simp only [Option.some.injEq,Obj.map.injEq]at r2
 obtain⟨hes,rfl⟩:=r2
 have hlt:B.b<w.heap.size:=(hr.lt b B _ hB B.self).1
 have hinM:∃q∈M,q.2=(e k,f v0):=by
  have:(y0,(e k,f v0))∈Qbt e f L:=QG.2 ⟨_,hin,rfl⟩
  rw [←hML]at this
  obtain⟨q,hq,e1⟩:=QG.1 this
  exact⟨q,hq,(Prod.mk.inj e1).2⟩
 rcases h6 with⟨g1,g2,g3⟩|⟨j,xx,v1,g1,g2,g3,g4,g5⟩
 ·subst hes
  obtain⟨q,hq,e1⟩:=hinM
  have:=(r6 q hq).1
  rw [e1]at this
  exact absurd (hk.inv _ _ _ _ this) (g3 q.1 (by simpa using (⟨q.2.1,q.2.2,hq⟩:∃a b,(q.1,a,b)∈M)))
 have hrun:(execOp a.eval o).run P w=.ok .skip { w with heap:=w.heap.setIfInBounds B.b (.map (es.modify j fun x=>{ x with key:=val k,val:=a.eval u }) clock') }:=by
  simp [execOp,ho,he,hyv,Instr.mapUpdate,run_underlying (Qkr hT),MapKept.run_getObj_map h1,MapKept.run_checkKey hD h5,MapKept.run_findKey hD g2,MapKept.run_setObj_map _ h1,g3,g4,MapKept.run_keyThatStays h5]
 subst hes
 have hms:QaR lt l k v=Qgg l k v:=by unfold QaR;rw [g1]
 have hmod:∀i:Nat,((M.map Prod.fst).toArray.modify j fun x=>{ x with key:=val k,val:=a.eval u })[i]? = if i=j then some { xx with key:=val k,val:=a.eval u }else(M.map Prod.fst).toArray[i]? := fun i=>by
  rw [QxU]
  by_cases hij:j=i
  ·subst hij;simp [g3]
  rw [if_neg hij,if_neg (Ne.symm hij)]
 have hkeyj:∀i x,(M.map Prod.fst).toArray[i]? = some x→x.key=val k→i=j:=fun i x hx hxk=>by
  have hnd:=h2.2.2
  have i1:((M.map Prod.fst).toArray.toList.map (·.key))[i]? = some (val k):=by rw [Qan,QoN,hx];simp [hxk]
  have i2:((M.map Prod.fst).toArray.toList.map (·.key))[j]? = some (val k):=by rw [Qan,QoN,g3];simp [g4]
  exact(List.getElem?_inj (by simpa using (Qhw.1 hx).1) hnd).1 (i1.trans i2.symm)
 have hjl:j<M.length:=by have:=(Qhw.1 g3).1;simpa using this
 have hMj:M[j].1=xx:=by
  have:=g3
  simp only [QiC,Qan,QD hjl,QdY,Option.some.injEq]at this
  exact this
 have hLlen:L.length=M.length:=by have:=congrArg List.length hML;simpa [Qbt] using this.symm
 have hLi:∀i (hi:i<M.length),(M[i].1.born,M[i].2)=(L[i].1,(e L[i].2.1,f L[i].2.2)):=fun i hi=>by
  have h7:(M.map fun q=>(q.1.born,q.2))[i]? = (Qbt e f L)[i]? := by rw [hML]
  unfold Qbt at h7
  rw [Qan,Qan,QD hi,QD (by omega)]at h7
  simpa using h7
 have hkey:∀i (hi:i<M.length),M[i].1.key=val L[i].2.1:=fun i hi=>by
  have h7:=(r6 _ (QaQ hi)).1
  rw [(Prod.mk.inj (hLi i hi)).2]at h7
  exact hk.inv _ _ _ _ h7
 have hLj:L[j].2.1=k:=hk.inj _ _ (by rw [←hkey j hjl,hMj];exact g4)
 have hLne:∀i (hi:i<M.length),i≠j→L[i].2.1≠k:=fun i hi hne e1=>hne (hkeyj i M[i].1 (by simp [hi]) (by rw [hkey i hi,e1]))
 have ha:(M.set j (({ xx with key:=val k,val:=a.eval u }:MapEntry),(e k,f v))).map (fun q=>(q.1.born,q.2))=Qbt e f (QnY L k v):=by
  apply List.ext_getElem
  ·simp [Qbt,QnY,hLlen]
  intro i h8 h9
  have hi:i<M.length:=by simpa using h8
  have hiL:i<L.length:=by omega
  by_cases c:i=j
  ·subst c
   have:=(Prod.mk.inj (hLi i hi)).1
   rw [hMj]at this
   simp [Qbt,QnY,hLj,this]
  have:=hLi i hi
  have hne:=hLne i hi c
  simp only [List.getElem_map,List.getElem_set,Qbt,QnY]
  rw [if_neg (Ne.symm c),if_neg hne]
  exact this
 have hbb:((M.set j (({ xx with key:=val k,val:=a.eval u }:MapEntry),(e k,f v))).map Prod.fst).toArray=(M.map Prod.fst).toArray.modify j fun x=>{ x with key:=val k,val:=a.eval u }:=by
  apply Array.ext_getElem?
  intro i
  rw [hmod]
  simp only [QiC,Qan,List.getElem?_set]
  by_cases c:i=j
  ·subst c;simp [hjl]
  rw [if_neg (Ne.symm c),if_neg c]
 have hc:((M.set j (({ xx with key:=val k,val:=a.eval u }:MapEntry),(e k,f v))).map Prod.snd).Perm (QB e f (Qgg l k v)):=by
  have e1:(M.set j (({ xx with key:=val k,val:=a.eval u }:MapEntry),(e k,f v))).map Prod.snd=((M.set j (({ xx with key:=val k,val:=a.eval u }:MapEntry),(e k,f v))).map (fun q=>(q.1.born,q.2))).map Prod.snd:=by rw [Qer];rfl
  have e2:(Qbt e f L).map Prod.snd=M.map Prod.snd:=by rw [←hML,Qer];rfl
  rw [e1,ha,QCh hk.einj,e2,←QCg hk.einj h3]
  exact r5.map _
 refine⟨{ w with heap:=w.heap.setIfInBounds B.b (.map ((M.map Prod.fst).toArray.modify j fun x=>{ x with key:=val k,val:=a.eval u }) clock') },φ,?_,?_⟩
 ·exact hrun
 rw [hd,hms]
 have hI:∀k',Imm C φ w k'→Imm C φ { w with heap:=w.heap.setIfInBounds B.b (.map ((M.map Prod.fst).toArray.modify j fun x=>{ x with key:=val k,val:=a.eval u }) clock') } k'∧(w.heap.setIfInBounds B.b (.map ((M.map Prod.fst).toArray.modify j fun x=>{ x with key:=val k,val:=a.eval u }) clock'))[k']? = w.heap[k']? := fun k' hk'=>
  ⟨⟨by simpa using hk'.1,hk'.2⟩,QeD _ fun e=>hk'.2.2 b B hB (.inl e)⟩
 refine hr.write hB rfl rfl rfl (by simp) (fun k' hne=>QeD _ hne) ⟨g0,M.set j (({ xx with key:=val k,val:=a.eval u }:MapEntry),(e k,f v)),ha,by rw [hbb];simp [hlt],?_,(Qng hk.einj).2 (by rw [QsV];exact h3),hc,fun q hq=>?_⟩
 ·rw [hbb]
  exact MapKept.stamped_modify h2 _ _ (fun _ _=>rfl) fun x _ hx=>by rw [g3]at hx;cases hx;exact g4.symm
 rcases Qzc hq with hq | rfl
 ·exact⟨(r6 q hq).1.mono hI,(r6 q hq).2.mono hI⟩
 exact⟨(hk.dat _ _ _),huv.mono hI⟩
end
theorem Stp.yieldH {P:Program}{C:Ctx}{σ:St}{o:Oper}{hp:Nat→Option Ob}{d b l:Nat}{K:QgT}{cs:List V}{q:Nat}{x:Operand}{ags:Array Operand}{ts:Array TypeId}{M N:List (Nat×Nat)}{dead:List Nat}{outs hsC hsN:List (Nat×Ob)}{vs us us2:List V}{ms:List Qgh}{r r':V}
  (h2:∀b u,hp b=some u→look σ.hp b=some u) (ho:o.op=.call { callee:=.value x,args:=ags,argTypes:=ts })
  (hx:σ.opd x=some (.clo (.yield l) [] [])) (hlp:look σ.hp b=some (.lp l K cs q)) (hq:q=0) (ha:σ.opsV ags.toList=some vs) (hps:vs.length=K.ps.size) (hd:o.dst=some d) (hn:Nat.ble (d+1) C.n=true) (hpg:C.pg P)
  (hu:Qvp cs K.ps.toList vs=us) (g1:Qdf ⟨[],N.map fun p=>(p.1,Ob.itr0)⟩ M N dead outs=true) (g2:Qgf (M.map Prod.fst)=true) (g3:Qgf (N.map Prod.fst)=true)
  (hus:Qms (bkM M) ms us=some us2) (hC:Qic (bkM M) hp M=some hsC) (hN:Qic (bkM N) (look outs) N=some hsN) (hr:trV (bkM N) r=some r') (hφ:Qky P l K us2 hsC (Gives r outs)):Stp P C o σ (Mut.run ⟨dead,hsN,some (d,r')⟩ σ):=by
 have g1:=Qw6 (σ:=σ) g1
 have g2:=Qcb.1 g2
 have g3:=Qcb.1 g3
 have inj:Qhy M=true∧Qhy N=true:=by
  simp only [Qdf,Qz]at g1
  exact⟨g1.1.1.1,g1.1.1.2⟩
 have mM:∀a b,bkM M a=some b→look M b=some a:=fun a b h=>Qbl inj.1 (Qfj h) g2
 have mN:∀a b,bkM N a=some b→look N b=some a:=fun a b h=>Qbl inj.2 (Qfj h) g3
 subst hu
 have:=Stp.yield ho hx hlp hq ha hps hd hn hpg g1 g2 (Qhz mM hus) (QcD mM (Qyy h2 hC)) hφ (QcD mN hN) (Qku mN hr)
 unfold Mut.run
 dsimp only
 rw [Qpu];exact this
theorem AK.know {P:Program}{C:Ctx}{Q:Exit→St→Prop}{σ:St}{ks:List Fr}{pt:Pt}{p:Prop}(h:∀a w,R C σ a w→p)(k:p→AK P C Q pt ks σ):AK P C Q pt ks σ:=
 AK.weakenE (ι:=PLift p) (f:=fun _=>σ) (fun a w hR=>⟨⟨h a w hR⟩,hR⟩) fun i=>k i.down
theorem AK.openMapK {P:Program}{C:Ctx}{Q:Exit→St→Prop}{σ:St}{ks:List Fr}{κ α:Type}[DecidableEq κ]{K:TypeId}{e:κ→V}{val:κ→Value}{f:α→V}{lt:List (κ×α)}{b:Nat}{pt:Pt}(hk:QfL P K e val)(hb:look σ.hp b=some (.map (QB e f lt)))
  (h:∀bm clock (L:List (Nat×(κ×α))),(L.map (·.1)).Nodup→(L.map (·.2.1)).Nodup→(L.map Prod.snd).Perm lt→AK P C Q pt ks (σ.set b (.mapX bm clock (Qbt e f L) (QB e f lt)))):AK P C Q pt ks σ:=by
 refine AK.openMap hk hb fun bm clock L h1 h2=>AK.know (p:=(lt.map Prod.fst).Nodup) (fun a w ⟨φ,hr⟩=>?_) fun hn=>h bm clock L h1 ?_ h2
 ·rcases hr.heap b _ (St.look_set_same _ _ _)with⟨B,hB,_,M,_,_,_,g3,_⟩|⟨_,e'⟩
  ·exact(Qng hk.einj).1 g3
  exact e'.elim
 have:=(h2.map Prod.fst).nodup_iff.2 hn
 rw [Qer]at this
 exact this
def QDP (P:Program)(E:TypeId):Bool:=match P.info? E with
 | some i=>match i.zero with
  | some (.slice none 0 0)=>true
  | _=>false
 | none=>false
theorem Stp.lookupN {P:Program}{C:Ctx}{σ:St}{o:Oper}{T d b K E:Nat}{x y:Operand}{κ α:Type}[DecidableEq κ]{e:κ→V}{val:κ→Value}{f:α→V}{l:List (κ×α)}{k:κ}(ho:o.op=.lookup T x y false)(hd:o.dst=some d)
  (hn:Nat.ble (d+1) C.n=true) (hx:σ.opd x=some (.map b)) (hb:look σ.hp b=some (.map (QB e f l))) (hy:σ.opd y=some (e k)) (hT:QnW P T=some (K,E)) (hk:QfL P K e val) (hz:QDP P E=true)
  (hv:(QR l k).isSome=false):Stp P C o σ (σ.put d (.lit (.slice none 0 0))):=by
 refine Stp.same hd hn fun φ a w hr=>?_
 obtain⟨B,hB,he⟩:=(hr.opd hx).map_inv
 have hyv:a.eval y=val k:=hk.inv _ _ _ _ ((hr.opd hy).toDat (hk.edat k))
 obtain⟨D,hD,_⟩:=hk.d
 obtain⟨es,clock,h1,h2,h3,h4,h5,h6⟩:=QdC.find hk hD (hr.block hB hb) k
 obtain⟨i,hi,hzx⟩:∃i,P.info? E=some i∧i.zero=some (.slice none 0 0):=by
  unfold QDP at hz
  split at hz
  ·rename_i i hi
   split at hz
   ·rename_i hzz;exact⟨i,hi,hzz⟩
   cases hz
  cases hz
 rcases h6 with⟨g1,g2,_⟩|⟨j,xx,v,g1,g2,g3,g4,g5⟩
 ·refine⟨.slice none 0 0,?_,.dat (.lit _)⟩
  simp [execOp,ho,he,hyv,Instr.lookup,run_underlying (Qkr hT),MapKept.run_getObj_map h1,MapKept.run_checkKey hD h5,MapKept.run_findKey hD g2,zeroValue,typeInfo,hi,hzx]
 rw [g1]at hv;cases hv
theorem Stp.eqNN {P:Program}{C:Ctx}{σ:St}{o:Oper}{x y:Operand}{T U d e:Nat}(ho:o.op=.binOp .eql T x y U)(hd:o.dst=some d)(hn:Nat.ble (d+1) C.n=true)(hx:σ.opd x=some (.lit (.slice none 0 0)))(hy:σ.opd y=some (.lit (.slice none 0 0)))(hT:P.underlying T=some (.slice e)):Stp P C o σ (σ.put d (.b true)):=by
 refine Stp.same hd hn fun φ a w hr=>?_
 have hxv:a.eval x=.slice none 0 0:=(hr.opd hx).lit_inv
 have hyv:a.eval y=.slice none 0 0:=(hr.opd hy).lit_inv
 refine⟨.bool true,?_,.dat (.b _)⟩
 simp [execOp,ho,hxv,hyv,eqGuard,binOp,run_equal_slice_nil w T _ none 0 0 hT]
end Go.Vm
namespace Go.Vm
open Go Go.RowKit
section
variable {P:Program}{C:Ctx}{σ:St}{o:Oper}{A:Nat→Nat}
theorem RR.grow {φ:Nat→Option Blk}{a:Act}{w:World}(hr:RR C φ σ a w){b z T:Nat}{rs:List (List V)}{cs:List V}{ys:Array Value}(hb:look σ.hp b=some (.tbl A z rs))(hlt:b<615)(hz:cs.length=z)(h1:∀v∈cs,v.one=true)
  (hs:ys.size=z) (hc:∀(j:Nat) x v,ys[j]? = some x→cs[j]? = some v→Dat (Imm C φ w) w x v):
  ∃φ',RR C φ' ((σ.kill b).set b (.tbl (fun i=>if i=rs.length then w.heap.size else A i) z (rs++[cs]))) a (w.alloc (.cells ys T)):=by
 generalize hA':(fun i=>if i=rs.length then w.heap.size else A i)=A'
 have hnew:A' rs.length=w.heap.size:=by rw [←hA'];simp
 have hold:∀i,i<rs.length→A' i=A i:=fun i hi=>by rw [←hA'];simp [Nat.ne_of_lt hi]
 have hrng:(List.range (rs++[cs]).length).map A'=(List.range rs.length).map A++[w.heap.size]:=by
  rw [QfJ,QeU,Qna,List.range_succ,List.map_append,QaZ,List.map_nil,hnew]
  congr 1
  exact QjH fun i hi=>hold i (QiD.1 hi)
 have hok:(∀r∈rs,QiE z r)→∀r∈rs++[cs],QiE z r:=fun h r hr=>by
  rcases Qco.1 hr with hr | hr
  ·exact h r hr
  rw [Qk2.1 hr];exact⟨hz,h1⟩
 have row:∀{I:Nat→Prop},(∀k,Imm C φ w k→I k)→∃cs2 E,(w.alloc (.cells ys T)).heap[w.heap.size]? = some (.cells cs2 E (0,0))∧cs2.size=z∧∀(j:Nat) v,cs[j]? = some v→∃x,cs2[j]? = some x∧Dat I (w.alloc (.cells ys T)) x v:=fun {I} hI=>by
  refine⟨ys,T,heap_alloc_new w _,hs,fun j v hv=>?_⟩
  have hj:j<ys.size:=by rw [hs,←hz];exact(QQ.1 hv).1
  exact⟨ys[j],Qgc hj,(hc j _ v (Qgc hj) hv).mono fun k hk=>⟨hI k hk,Below.heap_alloc w _ k hk.1⟩⟩
 rcases hr.heap b _ hb with⟨B,hB,hrep⟩|⟨hn,h⟩
 ·let B':Blk:=⟨B.b,B.cap,B.z,B.more++[w.heap.size],B.off⟩
  have hhas:∀k,B'.has k↔B.has k∨k=w.heap.size:=fun k=>by simp [Blk.has,B',or_assoc]
  have hI0:∀k,Imm C φ w k→Imm C (ext φ b B') (w.alloc (.cells ys T)) k:=fun k hk=>⟨by have:=hk.1;simp;omega,hk.2.1,fun o B1 h1=>by
   by_cases e:o=b
   ·subst e;rw [Q4]at h1;cases h1
    rw [hhas];rintro (h2 | h2)
    ·exact hk.2.2 _ B hB h2
    have:=hk.1;omega
   rw [QS _ e]at h1;exact hk.2.2 o B1 h1⟩
  have:=hr.change hB (B':=B') ⟨rfl,rfl,rfl,rfl⟩ (fun h=>absurd hlt (by omega)) (ob:=.tbl A' z (rs++[cs])) (w':=w.alloc (.cells ys T)) rfl rfl rfl (by simp) (fun k hk _=>Below.heap_alloc w _ k hk)
   (fun k hk=>by
    rcases(hhas k).1 hk with h2 | h2
    ·exact⟨by have:=(hr.lt b B k hB h2).1;simp;omega,.inl h2⟩
    ·exact⟨by simp;omega,.inr (by omega)⟩) (by
    refine⟨by rw [hrng,←hrep.1];rfl,?_,hok hrep.2.2.1,fun i q hi=>?_⟩
    ·show((B.b::B.more)++[w.heap.size]).Nodup
     rw [List.nodup_append]
     refine⟨hrep.2.1,by simp,fun x hx y hy=>?_⟩
     rw [Qk2.1 hy]
     have:=(hr.lt b B x hB (by unfold Blk.has;exact Qaa.1 hx)).1
     omega
    rcases QdB i rs.length with hlt' | hge
    ·rw [QbR hlt']at hi
     obtain⟨cs2,E,g1,g2,g3⟩:=hrep.2.2.2 i q hi
     have hAi:A i<w.heap.size:=(hr.lt b B _ hB ((hrep.has _).2 ⟨i,hlt',rfl⟩)).1
     exact⟨cs2,E,by rw [hold i hlt',Below.heap_alloc w _ _ hAi];exact g1,g2,fun j u hu=>let ⟨x',hx',hD⟩:=g3 j u hu;⟨x',hx',hD.mono fun k hk=>⟨hI0 k hk,Below.heap_alloc w _ k hk.1⟩⟩⟩
    have hi0:i=rs.length:=by have:=(QQ.1 hi).1;simp at this;omega
    subst hi0
    rw [Qcm (QbY _),Nat.sub_self]at hi
    simp at hi;subst hi
    rw [hnew];exact row hI0)
  have h2:=this.reset b (.tbl A' z (rs++[cs])) ⟨_,St.look_set_same _ _ _⟩ (.inl ⟨B',Q4 _ _ _,this.block (Q4 _ _ _) (St.look_set_same _ _ _)⟩)
  rw [St.set_kill]at h2
  exact⟨_,h2⟩
 replace h:rs=[]:=h
 subst h
 have hk:=hr.kill b
 have hnone:look (σ.kill b).hp b=none:=by
  cases h:look (σ.kill b).hp b with
  | none=>rfl
  | some ob=>exact absurd rfl (QcX _ _ _ h).1
 have hdel:del φ b=φ:=by
  funext k
  by_cases e:k=b
  ·subst e;rw [QsQ,hn]
  rw [Qef e]
 have hI1:=hk.imm_alloc b 0 0 (.cells ys T) (QsQ _ _)
 refine⟨_,hk.alloc (cap:=0) (z:=0) hnone hlt (ob:=.tbl A' z ([]++[cs])) (obj:=.cells ys T) ⟨?_,by simp,hok (by simp),fun i q hi=>?_⟩⟩
 ·rw [hrng];rfl
 have hi0:i=0:=by have:=(QQ.1 hi).1;simp at this;omega
 subst hi0
 simp at hi;subst hi
 have:A' 0=w.heap.size:=hnew
 rw [this]
 exact row fun k hk'=>(hI1 k (by rw [hdel];exact hk')).1
end
end Go.Vm
namespace Go.Vm
open Go Go.RowKit Go.Shelf Go.Lib Go.Proofs
noncomputable def QF1 (ρ:Ren)(nm:String):Func:={ Body2.n22 ρ with name:=nm }
noncomputable def ovF (ρ:Ren)(nm:String):Func:={ Body2.n29 ρ with name:=nm }
structure QF7 (P:Program) (ρ:Ren) (n1 n2:String) (E z by_:Nat) (zv:Value):Prop where
 mixed:P.follows .mixedOrders=true
 f22:P.funcs[ρ.f 22]? = some (QF1 ρ n1)
 f29:P.funcs[ρ.f 29]? = some (ovF ρ n2)
 nm:(n2 == "runtime.NumGoroutine")=false
 nx:Extern.findNext (ovF ρ n2)=none
 fd:Extern.find (ovF ρ n2)=some (Extern.SlicesOverlaps.overlaps #[(ρ.t 24),(ρ.t 24)] #[(ρ.t 4)])
 t0:P.underlying (ρ.t 0)=some (TypeDesc.tuple #[])
 t3:P.underlying (ρ.t 3)=some (TypeDesc.int IntKind.i64)
 t4:P.underlying (ρ.t 4)=some (TypeDesc.bool)
 t24:P.underlying (ρ.t 24)=some (TypeDesc.slice E)
 zE:∀w,(Go.sizeOf E).run P w=.ok z w
 iE:(P.info? E).map (fun i=>(i.zero,i.size,i.bytes))=some (some zv,z,by_)
 zc:zv.cells.size=z
 z0:0<z
 small:by_≤32768
variable {P:Program}{ρ:Ren}{n1 n2:String}{E z by_:Nat}{zv:Value}
def RowsIn (I:Nat→Prop)(w:World)(z:Nat)(l:List Value)(rs:List (List V)):Prop:=l.length=rs.length*z∧(∀r∈rs,QiE z r)∧(∀u∈l,u.oneCell'=true)∧∀(i:Nat) r,rs[i]? = some r→∀(j:Nat) v,r[j]? = some v→∃u,l[i*z+j]? = some u∧Dat I w u v
theorem RowsIn.append {I:Nat→Prop}{w:World}{l m:List Value}{rs us:List (List V)}(h:RowsIn I w z l rs)(k:RowsIn I w z m us):RowsIn I w z (l++m) (rs++us):=by
 obtain⟨h1,h2,h3,h4⟩:=h
 obtain⟨k1,k2,k3,k4⟩:=k
 obtain⟨g1,g2⟩:=Qoo (rest:=[]) (n:=rs.length) rfl h1 h2 k2 k1 h4 k4
 refine⟨by rw [QfJ,QfJ,h1,k1,QcC],g1,fun u hu=>(Qco.1 hu).elim (h3 u) (k3 u),by simpa using g2⟩
theorem RowsIn.take {I:Nat→Prop}{w:World}{l:List Value}{rs:List (List V)}(h:RowsIn I w z l rs){i:Nat}(hi:i≤rs.length):RowsIn I w z (l.take (i*z)) (rs.take i):=by
 obtain⟨h1,h2,h3,h4⟩:=h
 have hle:i*z≤rs.length*z:=Qb3 z hi
 refine⟨by rw [Qfh,Qfh,h1,QpI hle,QpI hi],fun r hr=>h2 r (QgS hr),fun u hu=>h3 u (QgS hu),fun k r hk j v hj=>?_⟩
 rw [Qcn]at hk
 split at hk
 ·rename_i hki
  obtain⟨u,hu,hD⟩:=h4 k r hk j v hj
  have hjz:j<z:=by have:=(QQ.1 hj).1;rwa [(h2 r (QaL hk)).1]at this
  have:(k+1)*z≤i*z:=Qb3 z hki
  rw [QcC]at this
  exact⟨u,by rw [Qcn,if_pos (by omega)];exact hu,hD⟩
 cases hk
theorem RowsIn.drop {I:Nat→Prop}{w:World}{l:List Value}{rs:List (List V)}(h:RowsIn I w z l rs){i:Nat}(hi:i≤rs.length):RowsIn I w z (l.drop (i*z)) (rs.drop i):=by
 obtain⟨h1,h2,h3,h4⟩:=h
 refine⟨by rw [Qmr,Qmr,h1,Nat.sub_mul],fun r hr=>h2 r (Qpp hr),fun u hu=>h3 u (Qpp hu),fun k r hk j v hj=>?_⟩
 rw [QhU]at hk
 obtain⟨u,hu,hD⟩:=h4 _ r hk j v hj
 exact⟨u,by rw [QhU,←hu];congr 1;rw [QcC];omega,hD⟩
theorem RowsIn.mono {I I':Nat→Prop}{w w':World}(hI:∀k,I k→I' k∧w'.heap[k]? = w.heap[k]?){l:List Value}{rs:List (List V)}(h:RowsIn I w z l rs):RowsIn I' w' z l rs:=
 ⟨h.1,h.2.1,h.2.2.1,fun i r hi j v hj=>let ⟨u,hu,hD⟩:=h.2.2.2 i r hi j v hj;⟨u,hu,hD.mono hI⟩⟩
section
variable {C:Ctx}{σ:St}{o:Oper}
end
section
variable {P:Program}{C:Ctx}{σ:St}{o:Oper}
theorem Stp.appSB {T U d e e' z z' by_ by' b n m:Nat}{x y:Operand}{rs us rs':List (List V)}{zs:List V}(ho:o.op=.call { callee:=.builtin .append,args:=#[x,y],argTypes:=#[T,U] })
  (hd:o.dst=some d) (hn:Nat.ble (d+1) C.n=true) (hx:σ.opd x=some (.own b n)) (hb:look σ.hp b=some (.arr z rs)) (hb1:Nat.ble 615 b=false) (hnl:rs.length=n)
  (hT:Qaz P T=some (e,z,by_)) (hU:Qaz P U=some (e',z',by')) (hz:Qar P e=some zs) (hzl:zs.length=z) (hz0:z≠0) (hb0:1≤by_) (hsm:decide ((n+us.length)*by_≤140737488355328)=true)
  (hy:σ.opd y=some (.sl z us)) (he:rs++us=rs') (hm:n+us.length=m):Stp P C o σ (σ.app b z d m rs'):=
 Stp.appendB ho hd hn hx hb hb1 hnl hT hU hz hzl hz0 (Qaw (Nat.le_mul_of_pos_right _ hb0) (QV hsm)) (QV hsm) (fun φ a w hr=>(hr.opd hy).source_sl) he hm
theorem Qvr {α β:Type}{us:List α}{y:List β}{n b L:Nat}(h:decide ((n+y.length)*b≤L)=true)(e:us.length=y.length):decide ((n+us.length)*b≤L)=true:=by rw [e];exact h
end
end Go.Vm
