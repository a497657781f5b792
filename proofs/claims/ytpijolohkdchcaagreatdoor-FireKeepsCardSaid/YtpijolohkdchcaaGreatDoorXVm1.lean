/- A part of the proof; what it holds is told at each theorem. -/
import Derived.Test.YtpijolohkdchcaaGreatDoorXVmV
import Derived.Laws.StructEq
import Derived.Laws.Cover3
set_option linter.unusedVariables false
set_option linter.unusedSimpArgs false
set_option linter.unusedSectionVars false
set_option linter.deprecated false
namespace Go.Vm
open Go Go.RowKit
section
variable {P:Program}{C:Ctx}{σ:St}{o:Oper}
def intT (P:Program)(T:TypeId)(k:IntKind):Bool:=match P.underlying T with
 | some (.int q)=>ikB q k
 | _=>false
theorem Qsg {T:TypeId}{k:IntKind}(h:intT P T k=true):P.underlying T=some (.int k):=by
 unfold intT at h
 split at h
 ·rename_i q hq;rw [hq,Qr3 h]
 ·cases h
theorem Stp.convI {S T d:Nat}{x:Operand}{k k':IntKind}{n:Int}(ho:o.op=.convert S T x)(hd:o.dst=some d)(hn:Nat.ble (d+1) C.n=true)(hx:σ.opd x=some (.i k' n))(hs:intT P S k'=true)(hT:intT P T k=true):Stp P C o σ (σ.put d (.i k (k.wrap n))):=by
 refine Stp.same hd hn fun φ a w hr=>⟨.int k (k.wrap n),?_,.dat (.i _ _)⟩
 simp [execOp,ho,(hr.opd hx).i_inv,convert,run_underlying (Qsg hs),run_underlying (Qsg hT),Conv.intToInt]
def shlI (k:IntKind)(m n:Int):Int:=k.wrap (m*2 ^ (min n.toNat k.bits))
def shrI (k:IntKind)(m n:Int):Int:=m.fdiv (2 ^ (min n.toNat k.bits))
theorem Stp.shl {x y:Operand}{T U d:Nat}{k k':IntKind}{m n:Int}(ho:o.op=.binOp .shl T x y U)(hd:o.dst=some d)(hn:Nat.ble (d+1) C.n=true)(hx:σ.opd x=some (.i k m))(hy:σ.opd y=some (.i k' n))(h0:0≤n):Stp P C o σ (σ.put d (.i k (shlI k m n))):=by
 refine Stp.same hd hn fun φ a w hr=>⟨.int k _,?_,.dat (.i _ _)⟩
 have:¬n<0:=by omega
 simp [execOp,ho,(hr.opd hx).i_inv,(hr.opd hy).i_inv,eqGuard,binOp,Op.shift,this,shlI]
theorem Stp.shr {x y:Operand}{T U d:Nat}{k k':IntKind}{m n:Int}(ho:o.op=.binOp .shr T x y U)(hd:o.dst=some d)(hn:Nat.ble (d+1) C.n=true)(hx:σ.opd x=some (.i k m))(hy:σ.opd y=some (.i k' n))(h0:0≤n):Stp P C o σ (σ.put d (.i k (shrI k m n))):=by
 refine Stp.same hd hn fun φ a w hr=>⟨.int k _,?_,.dat (.i _ _)⟩
 have:¬n<0:=by omega
 simp [execOp,ho,(hr.opd hx).i_inv,(hr.opd hy).i_inv,eqGuard,binOp,Op.shift,this,shrI]
def andI (k:IntKind)(m n:Int):Int:=k.wrap ((BitVec.ofInt k.bits m &&& BitVec.ofInt k.bits n).toNat:Int)
theorem Stp.andB {x y:Operand}{T U d:Nat}{k:IntKind}{m n:Int}(ho:o.op=.binOp .and T x y U)(hd:o.dst=some d)(hn:Nat.ble (d+1) C.n=true)(hx:σ.opd x=some (.i k m))(hy:σ.opd y=some (.i k n)):Stp P C o σ (σ.put d (.i k (andI k m n))):=
 Stp.same hd hn fun φ a w hr=>⟨.int k _,by simp [execOp,ho,(hr.opd hx).i_inv,(hr.opd hy).i_inv,eqGuard,binOp,Op.intBits,andI],.dat (.i _ _)⟩
def Qgl : List V→Option (List Value)
 | []=>some []
 | .i k n::r=>(Qgl r).map (.int k n::·)
 | .b x::r=>(Qgl r).map (.bool x::·)
 | .s x::r=>(Qgl r).map (.string x::·)
 | _=>none
theorem QtM {φ:Nat→Option Blk}{I:Nat→Prop}{w:World}:∀{cs:List V} {vs xs:List Value},Qgl cs=some vs→xs.length=cs.length→(∀(j:Nat) x v,xs[j]? = some x→cs[j]? = some v→Rep φ I w x v)→xs=vs:=by
 intro cs
 induction cs with
 | nil=>intro vs xs h hl _;cases h;exact List.eq_nil_of_length_eq_zero hl
 | cons c cs ih=>
  intro vs xs h hl hr
  cases xs with
  | nil=>cases hl
  | cons x xs=>
   have h0:=hr 0 x c rfl rfl
   have hi:∀{us:List Value},Qgl cs=some us→xs=us:=fun e=>ih e (by simpa using hl) fun j x v a b=>hr (j+1) x v a b
   cases c with
   | i k n=>simp only [Qgl,Option.map_eq_some_iff]at h;obtain⟨us,e,rfl⟩:=h;rw [h0.i_inv,hi e]
   | b k=>simp only [Qgl,Option.map_eq_some_iff]at h;obtain⟨us,e,rfl⟩:=h;rw [h0.b_inv,hi e]
   | s k=>simp only [Qgl,Option.map_eq_some_iff]at h;obtain⟨us,e,rfl⟩:=h;rw [h0.s_inv,hi e]
   | _=>cases h
theorem Rep.aggVals {φ:Nat→Option Blk}{I:Nat→Prop}{w:World}{x:Value}{cs:List V}{vs:List Value}(h:Rep φ I w x (.agg cs))(hv:Qgl cs=some vs):x=.agg vs.toArray:=by
 obtain⟨xs,rfl,hs,hr⟩:=h.agg_inv
 have:=QtM (xs:=xs.toList) hv (by simpa using hs) fun j x v a b=>hr j x v (by simpa using a) b
 rw [←this]
def EqT (P:Program)(T:TypeId)(vs us:List Value)(r:Bool):Prop:=P.eqGuardType P.depth T=false∧∀w,(Op.equalIn 10000 T (.agg vs.toArray) (.agg us.toArray)).run P w=.ok r w
theorem Stp.eqAgg {x y:Operand}{T U d:Nat}{cs ds:List V}{vs us:List Value}{r:Bool}(ho:o.op=.binOp .eql T x y U)(hd:o.dst=some d)(hn:Nat.ble (d+1) C.n=true)(hx:σ.opd x=some (.agg cs))(hy:σ.opd y=some (.agg ds))(hv:Qgl cs=some vs)(hu:Qgl ds=some us)(he:EqT P T vs us r):
  Stp P C o σ (σ.put d (.b r)):=by
 refine Stp.same hd hn fun φ a w hr=>⟨.bool r,?_,.dat (.b _)⟩
 have h1:=(hr.opd hx).aggVals hv
 have h2:=(hr.opd hy).aggVals hu
 have h3:=he.2 w
 simp only [execOp,ho,h1,h2,eqGuard,Sem.run_bind,run_program,Result.andThen_ok,he.1]
 simp [binOp,Op.equal,Op.maxDepth,h3,he.1]
theorem Stp.neAgg {x y:Operand}{T U d:Nat}{cs ds:List V}{vs us:List Value}{r:Bool}(ho:o.op=.binOp .neq T x y U)(hd:o.dst=some d)(hn:Nat.ble (d+1) C.n=true)(hx:σ.opd x=some (.agg cs))(hy:σ.opd y=some (.agg ds))(hv:Qgl cs=some vs)(hu:Qgl ds=some us)(he:EqT P T vs us r):
  Stp P C o σ (σ.put d (.b (!r))):=by
 refine Stp.same hd hn fun φ a w hr=>⟨.bool (!r),?_,.dat (.b _)⟩
 have h1:=(hr.opd hx).aggVals hv
 have h2:=(hr.opd hy).aggVals hu
 have h3:=he.2 w
 simp only [execOp,ho,h1,h2,eqGuard,Sem.run_bind,run_program,Result.andThen_ok,he.1]
 simp [binOp,Op.equal,Op.maxDepth,h3,he.1]
end
section
variable {P:Program}{C:Ctx}{σ:St}{Q:Exit→St→Prop}{ks:List Fr}{ops:Array Oper}{rest:List Oper}{o:Oper}
theorem AK.eqNil {x y:Operand}{T U d e z:Nat}{rows:List (List V)}(hg:o.guard=none)(ho:o.op=.binOp .eql T x y U)(hd:o.dst=some d)(hn:Nat.ble (d+1) C.n=true)(hx:σ.opd x=some (.sl z rows))(hy:σ.opd y=some (.lit (.slice none 0 0)))(hT:P.underlying T=some (.slice e))
  (h1:rows=[]→AK P C Q (.o ops rest) ks (σ.put d (.b true))) (h2:AK P C Q (.o ops rest) ks (σ.put d (.b false))):AK P C Q (.o ops (o::rest)) ks σ:=by
 intro a w hR
 obtain⟨φ,hr⟩:=hR
 have hyv:a.eval y=.slice none 0 0:=(hr.opd hy).lit_inv
 have run:∀p l c,a.eval x=.slice p l c→(execOp a.eval o).run P w=.ok (.value (.bool p.isNone)) w:=fun p l c e=>by
  simp [execOp,ho,e,hyv,eqGuard,binOp,run_equal_slice_nil w T _ p l c hT]
 have go:∀{v:Bool} {σ':St},(execOp a.eval o).run P w=.ok (.value (.bool v)) w→σ'=σ.put d (.b v)→AK P C Q (.o ops rest) ks σ'→wpListIn C.F 0 P ops (up C (unw P C Q ks)) (o::rest) a w:=fun {v σ'} e e2 k=>by
  have:Stp P C { o with op:=.move (.const (.bool v)) } σ (σ.put d (.b v)):=Stp.move rfl hd hn rfl
  simp only [wpListIn,Region.wanted,hg,if_true]
  refine⟨fun _ _=>trivial,?_⟩
  rw [Qqb e,Oper.uponIn_value]
  subst e2
  refine k _ _ ⟨φ,?_⟩
  rw [hd]
  exact hr.put (QS hn) (.dat (.b _))
 rcases(hr.opd hx).sl_inv with⟨p,c,he,h0⟩|⟨b,off,cap,he,_⟩
 ·cases p with
  | none=>exact go (run none 0 c he) rfl (h1 h0)
  | some p=>exact go (run (some p) 0 c he) rfl h2
 ·exact go (run _ _ _ he) rfl h2
end
section
variable {P:Program}{C:Ctx}{σ:St}{o:Oper}
theorem Stp.buildAny {T d e z by_ n:Nat}{parts:Array (Nat×Operand)}{zs vs:List V}{qs:List (Nat×V)}(ho:o.op=.buildSlice T n parts)(hd:o.dst=some d)(hn:Nat.ble (d+1) C.n=true)
  (hT:Qax P T=some (e,z,by_)) (hz:Qap P e=some zs) (hzl:zs.length=z) (hz0:z≠0) (hbig:n*z≤16777216) (hq:σ.opds parts.toList=some qs) (hv:qs.all (fun q=>q.2.isV)=true)
  (hf:Qel (fun i=>some (i*z,z)) ((List.range (n*z)).map fun k=>zs.getD (k % z) .J) qs=some vs)
  (hfr:look σ.hp d=none):Stp P C o σ ((σ.set d (.var vs)).put d (.own d n)):=by
 refine Stp.val fun φ a w hr=>?_
 obtain⟨hu,i,hi,hi1,_⟩:=QbW hT
 obtain⟨i',zv,hi',hz',rfl⟩:=QgN hz
 rw [hi]at hi';cases hi'
 have hzs:zv.cells.size=i.size:=by rw [hi1];simpa using hzl
 have hf0:=hf
 rw [←hi1]at hf
 rw [←Qm8 zv.cells n i.size hzs (by omega)]at hf
 obtain⟨xs',h1,h2,h3⟩:=hr.fill hq hv hf
 refine⟨.slice (some ⟨w.heap.size,0,none⟩) n n,w.alloc (.cells xs' e),ext φ d ⟨w.heap.size,n,1,[],0⟩,?_,?_⟩
 ·have e2:(parts.map fun p=>(p.1,a.eval p.2)).toList=parts.toList.map fun p=>(p.1,a.eval p.2):=by simp
  have hb:¬(n*i.size > 2 ^ 24):=by rw [hi1];omega
  by_cases hn0:n*i.size=0
  ·have hn1:n=0:=by
    rw [hi1]at hn0
    rcases Nat.mul_eq_zero.1 hn0 with h | h
    ·exact h
    ·exact absurd h hz0
   subst hn1
   simp only [Nat.zero_mul]at h1
   rw [Array.range_zero',Array.map_empty]at h1
   simp only [execOp,ho,Instr.buildSlice,Sem.run_bind,run_underlying hu,Result.andThen_ok,sizeOf,typeInfo,run_program,hi,Sem.run_pure,Nat.zero_mul,if_true,e2,Array.range_zero',Array.map_empty]
   simp [h1,newRow]
  ·simp only [execOp,ho,Instr.buildSlice,Sem.run_bind,run_underlying hu,Result.andThen_ok,sizeOf,typeInfo,run_program,hi,Sem.run_pure,if_neg hb,if_neg hn0,zeroValue,hz',e2,h1,newRow,run_newObj]
   simp
 ·have hN:=hr.none_of_look hfr
  have hnew:=hr.alloc (cap:=n) (z:=1) hfr (C.slot hn) (ob:=.var vs) (obj:=.cells xs' e)
   ⟨xs',e,heap_alloc_new w _,h2,rfl,fun j x v hx hv'=>(h3 j x v hx hv').mono (hr.mono_ext _ hN) (hr.imm_alloc d n 1 _ hN)⟩
  rw [hd]
  refine hnew.put (QS hn) ?_
  exact .own d n ⟨w.heap.size,n,1,[],0⟩ (QM _ _ _) (Nat.le_refl _)
theorem Stp.idxV {T d e z by_ b n m:Nat}{x y:Operand}{cs:List V}{k:IntKind}{j:Int}(ho:o.op=.indexAddr T x y)(hd:o.dst=some d)(hn:Nat.ble (d+1) C.n=true)
  (hx:σ.opd x=some (.own b n)) (hy:σ.opd y=some (.i k j)) (hT:Qax P T=some (e,z,by_)) (hb:look σ.hp b=some (.var cs)) (h0:(0≤j∧j<n)∧j.toNat*z=m):
  Stp P C o σ (σ.put d (.loc b 0 m)):=by
 refine Stp.same hd hn fun φ a w hr=>?_
 obtain⟨⟨h0,h1⟩,rfl⟩:=h0
 rcases(hr.opd hx).own_inv with⟨_,rfl⟩|⟨B,hB,hcap,he⟩
 ·omega
 ·refine⟨.pointer (some ⟨B.b,B.off+(0*B.z+j.toNat*z),none⟩),?_,.loc b 0 (j.toNat*z) B hB⟩
  simp only [execOp,ho,he,(hr.opd hy).i_inv,Sem.run_bind,Qlx hT h0 h1,Result.andThen_ok,Sem.run_pure,Addr.add_lit,Nat.zero_mul,Nat.zero_add]
end
section
variable {P:Program}{C:Ctx}{Q:Exit→St→Prop}
def Rnd (P:Program)(C:Ctx)(Q:Exit→St→Prop)(ks:List Fr)(c:Code):Nat→St→Prop
 | 0,_=>False
 | n+1,σ=>AK P C Q (.c c) (.cut (Rnd P C Q ks c n)::ks) σ
theorem AK.rnd {ks:List Fr}{c:Code}{n:Nat}{σ:St}(h:AK P C Q (.c c) (.cut (Rnd P C Q ks c n)::ks) σ):Rnd P C Q ks c (n+1) σ:=h
theorem AK.loopN {ks:List Fr}{c:Code}(n:Nat){σ:St}(h:Rnd P C Q ks c n σ):AK P C Q (.c (.loop c)) ks σ:=by
 have key:∀(n:Nat) (σ:St) (a:Act) (w:World),Rnd P C Q ks c n σ→R C σ a w→Code.roundsIn C.F 0 P c (up C (unw P C Q ks)) n a w:=by
  intro n
  induction n with
  | zero=>intro σ a w h;exact h.elim
  | succ n ih=>
   intro σ a w h hR
   rw [roundsIn_succ]
   refine wpIn_mono (h a w hR) ?_
   rintro e a' w' ⟨σ',h1,h2⟩
   cases e with
   | normal=>exact ih σ' a' w' h1 h2
   | _=>exact⟨σ',h1,h2⟩
 exact fun a w hR=>wpIn_loop_rounds n (key n σ a w h hR)
end
end Go.Vm
