/- A part of the proof; what it holds is told at each theorem. -/
import Derived.Test.YtpijolohkdchcaaGreatDoorXVmL
set_option linter.unusedVariables false
set_option linter.unusedSimpArgs false
set_option linter.unusedSectionVars false
set_option linter.deprecated false
namespace Go.Vm
open Go Go.RowKit
def QgS (a b:ByteArray):Bool:=a.toList==b.toList
def sidx (s:ByteArray)(j:Int):Option Int:=if 0≤j then(s[j.toNat]?).map fun c=>(c.toNat:Int)else none
def max2 (x y:Int):Int:=if y > x then y else x
def min2 (x y:Int):Int:=if y<x then y else x
theorem neZ {n:Int}(h:(n != 0)=true):n≠0:=by simpa using h
def Qqe (P:Program)(t:TypeId):Bool:=match P.underlying t with | some .bool=>true | _=>false
theorem QtA {P:Program}{T:Nat}(h:Qqe P T=true):P.underlying T=some .bool:=by
 unfold Qqe at h
 split at h
 ·assumption
 ·cases h
theorem QsW {P:Program}{T:Nat}{m n:Bool}{w:World}(hu:P.underlying T=some .bool):(Op.equal T (.bool m) (.bool n)).run P w=.ok (m==n) w:=by
 have e:Op.equal T (.bool m) (.bool n)=Op.equalIn (9999+1) T (.bool m) (.bool n):=rfl
 rw [e,Op.equalIn]
 simp only [Sem.run_bind,run_underlying hu,Result.andThen_ok,Sem.run_pure]
section
variable {P:Program}{C:Ctx}{σ:St}{o:Oper}
theorem Stp.eqB {op:BinOp}{x y:Operand}{T U d:Nat}{m n:Bool}{v:V}(ho:o.op=.binOp op T x y U)(hd:o.dst=some d)(hn:Nat.ble (d+1) C.n=true)(hx:σ.opd x=some (.b m))(hy:σ.opd y=some (.b n))
  (hT:Qqe P T=true) (hv:(op=.eql∧v=.b (m==n))∨(op=.neq∧v=.b (m != n))):Stp P C o σ (σ.put d v):=by
 refine Stp.same hd hn fun φ a w hr=>?_
 have h1:=(hr.opd hx).b_inv
 have h2:=(hr.opd hy).b_inv
 have hu:=QtA hT
 rcases hv with⟨rfl,rfl⟩|⟨rfl,rfl⟩ <;>
  exact⟨.bool _,by simp only [execOp,ho,h1,h2,Sem.run_bind,eqGuard_at_bool,Sem.run_pure,Result.andThen_ok,binOp,QsW hu];try rfl,.dat (.b _)⟩
theorem Stp.eqS {op:BinOp}{x y:Operand}{T U d:Nat}{m n:ByteArray}{v:V}(ho:o.op=.binOp op T x y U)(hd:o.dst=some d)(hn:Nat.ble (d+1) C.n=true)(hx:σ.opd x=some (.s m))(hy:σ.opd y=some (.s n))
  (hv:(op=.eql∧v=.b (QgS m n))∨(op=.neq∧v=.b (!QgS m n))):Stp P C o σ (σ.put d v):=by
 refine Stp.same hd hn fun φ a w hr=>?_
 have h1:=(hr.opd hx).s_inv
 have h2:=(hr.opd hy).s_inv
 rcases hv with⟨rfl,rfl⟩|⟨rfl,rfl⟩
 ·exact⟨.bool (QgS m n),by simp [execOp,ho,h1,h2,eqGuard,binOp,Op.stringOp,QgS],.dat (.b _)⟩
 ·exact⟨.bool (!QgS m n),by simp [execOp,ho,h1,h2,eqGuard,binOp,Op.stringOp,QgS],.dat (.b _)⟩
theorem Stp.idxStr' {T d:Nat}{x y:Operand}{k:IntKind}{j r:Int}{s:ByteArray}(ho:o.op=.index T x y)(hd:o.dst=some d)(hn:Nat.ble (d+1) C.n=true)
  (hx:σ.opd x=some (.s s)) (hy:σ.opd y=some (.i k j)) (hT:strB P T=true) (h:sidx s j=some r):Stp P C o σ (σ.put d (.i .u8 r)):=by
 unfold sidx at h
 split at h
 ·obtain⟨c,hc,rfl⟩:=Option.map_eq_some_iff.1 h
  exact Stp.idxStr ho hd hn hx hy hT (by assumption) hc
 ·cases h
theorem Stp.lenS' {T d e z z' by_ n:Nat}{x:Operand}{rows:List (List V)}(ho:o.op=.call { callee:=.builtin .len,args:=#[x],argTypes:=#[T] })(hd:o.dst=some d)(hn:Nat.ble (d+1) C.n=true)
  (hx:σ.opd x=some (.sl z rows)) (hT:Qax P T=some (e,z',by_)) (hl:rows.length=n):Stp P C o σ (σ.put d (.i .i64 n)):=by
 subst hl;exact Stp.lenS ho hd hn hx hT
theorem Stp.make' {T d e z by_:Nat}{x y:Operand}{zs:List V}{rs:List (List V)}{k k':IntKind}{l c:Int}(ho:o.op=.makeSlice T x y)(hd:o.dst=some d)(hn:Nat.ble (d+1) C.n=true)
  (hx:σ.opd x=some (.i k l)) (hy:σ.opd y=some (.i k' c)) (hT:Qax P T=some (e,z,by_)) (hz:Qap P e=some zs) (hzl:zs.length=z) (hz0:z≠0) (hone:zs.all V.one=true)
  (hk:(decide (0≤l)&&decide (l≤c)&&decide (c≤4294967296))=true) (hby:Nat.ble by_ 32768=true) (hf:look σ.hp d=none) (hrs:List.replicate l.toNat zs=rs):
  Stp P C o σ ((σ.set d (.arr z rs)).put d (.own d l.toNat)):=by
 subst hrs
 simp only [Bool.and_eq_true,decide_eq_true_eq]at hk
 exact Stp.make ho hd hn hx hy hT hz hzl hz0 hone hk.1.1 hk.1.2 (Nat.le_of_ble_eq_true hby) hk.2 hf
theorem Stp.max2 {d:Nat}{x y:Operand}{k:IntKind}{m n:Int}{ts:Array TypeId}(ho:o.op=.call { callee:=.builtin .max,args:=#[x,y],argTypes:=ts })(hd:o.dst=some d)(hn:Nat.ble (d+1) C.n=true)
  (hx:σ.opd x=some (.i k m)) (hy:σ.opd y=some (.i k n)):Stp P C o σ (σ.put d (.i k (Vm.max2 m n))):=by
 refine Stp.same hd hn fun φ a w hr=>⟨.int k (Vm.max2 m n),?_,.dat (.i _ _)⟩
 simp [execOp,ho,(hr.opd hx).i_inv,(hr.opd hy).i_inv,resolve,invoke,builtin,Builtin.max_,Builtin.max2,Vm.max2]
theorem Stp.min2 {d:Nat}{x y:Operand}{k:IntKind}{m n:Int}{ts:Array TypeId}(ho:o.op=.call { callee:=.builtin .min,args:=#[x,y],argTypes:=ts })(hd:o.dst=some d)(hn:Nat.ble (d+1) C.n=true)
  (hx:σ.opd x=some (.i k m)) (hy:σ.opd y=some (.i k n)):Stp P C o σ (σ.put d (.i k (Vm.min2 m n))):=by
 refine Stp.same hd hn fun φ a w hr=>⟨.int k (Vm.min2 m n),?_,.dat (.i _ _)⟩
 simp [execOp,ho,(hr.opd hx).i_inv,(hr.opd hy).i_inv,resolve,invoke,builtin,Builtin.min_,Builtin.min2,Vm.min2]
end
def V.renC (o o':Nat):V→V
 | .own p n=>.own (bif Nat.beq p o then o' else p) n
 | .loc p k l=>.loc (bif Nat.beq p o then o' else p) k l
 | .map p=>.map (bif Nat.beq p o then o' else p)
 | .ifc t x=>.ifc t (x.renC o o')
 | .agg cs=>bif cs.all V.plain then .agg cs else .J
 | .tup _=>.J
 | .clo _ _ _=>.J
 | v=>v
def V.ren (o o':Nat):V→V
 | .agg cs=>.agg (cs.map (V.renC o o'))
 | .clo fn fs cs=>.clo fn (fs.map (V.renC o o')) (cs.map (V.renC o o'))
 | v=>v.renC o o'
def Ob.ren (o o':Nat):Ob→Ob
 | .var cs=>.var (cs.map (V.ren o o'))
 | .lp l K cs q=>.lp l K (cs.map (V.ren o o')) q
 | ob=>ob
def QoV (o o':Nat):List (Nat×V)→List (Nat×V)
 | []=>[]
 | (t,v)::r=>(t,v.ren o o')::QoV o o' r
def QoW (o o':Nat):List (Nat×Ob)→List (Nat×Ob)
 | []=>[]
 | (p,ob)::r=>(bif Nat.beq p o then o' else p,ob.ren o o')::QoW o o' r
def St.ren (σ:St)(o o':Nat):St:=⟨QoV o o' σ.fr,QoW o o' σ.hp⟩
section
variable {φ φ':Nat→Option Blk}{I:Nat→Prop}{w:World}{o o':Nat}
theorem QdB (p o o':Nat):(p=o∧(bif Nat.beq p o then o' else p)=o')∨(p≠o∧(bif Nat.beq p o then o' else p)=p):=by
 cases h:Nat.beq p o with
 | true=>exact .inl ⟨Nat.eq_of_beq_eq_true h,rfl⟩
 | false=>exact .inr ⟨fun e=>by subst e;simp at h,rfl⟩
theorem Rep.renC (h1:∀B,φ o=some B→φ' o'=some B)(h2:∀p B,p≠o→φ p=some B→φ' p=some B){x:Value}{v:V}(h:Rep φ I w x v):Rep φ' I w x (v.renC o o'):=by
 have key:∀p B,φ p=some B→φ' (bif Nat.beq p o then o' else p)=some B:=by
  intro p B hB
  rcases QdB p o o' with⟨e,e2⟩|⟨e,e2⟩
  ·rw [e2];exact h1 B (e▸hB)
  ·rw [e2];exact h2 p B e hB
 induction h with
 | dat h=>
  have:∀{x:Value} {v:V},Dat I w x v→Rep φ' I w x (v.renC o o'):=by
   intro x v h
   induction h with
   | ifc t x v _ ih=>exact .ifc t x _ ih
   | agg xs cs hs hr=>
    unfold V.renC
    cases h:cs.all V.plain with
    | true=>exact .dat (.agg xs cs hs hr)
    | false=>exact .dat (.J _)
   | tup=>exact .dat (.J _)
   | b=>exact .dat (.b _)
   | i=>exact .dat (.i _ _)
   | s=>exact .dat (.s _)
   | lit=>exact .dat (.lit _)
   | J=>exact .dat (.J _)
   | sl0=>exact .dat (.sl0 _ _ _)
   | sl b off len cap z rows c a1 a2 a3 a4 a5 a6 _=>exact .dat (.sl b off len cap z rows c a1 a2 a3 a4 a5 a6)
   | ro b off cs c a1 a2 a3 a4 _=>exact .dat (.ro b off cs c a1 a2 a3 a4)
  exact this h
 | own0 p=>exact .own0 _
 | own p n B hB hn=>exact .own _ n B (key p B hB) hn
 | loc p i d B hB=>exact .loc _ i d B (key p B hB)
 | map p B hB=>exact .map _ B (key p B hB)
 | ifc t x v _ ih=>exact .ifc t x _ ih
 | agg xs cs hs hr _=>
  unfold V.renC
  cases h:cs.all V.plain with
  | true=>exact .dat (Rep.aggPlain hs hr h)
  | false=>exact .dat (.J _)
 | tup=>exact .dat (.J _)
 | clo=>exact .dat (.J _)
theorem Rep.ren (h1:∀B,φ o=some B→φ' o'=some B)(h2:∀p B,p≠o→φ p=some B→φ' p=some B){x:Value}{v:V}(h:Rep φ I w x v):Rep φ' I w x (v.ren o o'):=by
 cases v with
 | agg cs=>
  obtain⟨xs,rfl,hs,hr⟩:=h.agg_inv
  refine .agg xs _ (by simpa using hs) fun j x v hx hv=>?_
  rw [List.getElem?_map]at hv
  obtain⟨u,hu,rfl⟩:=Option.map_eq_some_iff.1 hv
  exact(hr j x u hx hu).renC h1 h2
 | clo fn vs us=>
  obtain⟨xs,ys,rfl,e1,e2,e3,e4⟩:=h.clo_inv
  refine .clo fn xs ys _ _ (by simpa using e1) (by simpa using e2) (fun j x v hx hv=>?_) (fun j x v hx hv=>?_)
  ·rw [List.getElem?_map]at hv
   obtain⟨u,hu,rfl⟩:=Option.map_eq_some_iff.1 hv
   exact(e3 j x u hx hu).renC h1 h2
  ·rw [List.getElem?_map]at hv
   obtain⟨u,hu,rfl⟩:=Option.map_eq_some_iff.1 hv
   exact(e4 j x u hx hu).renC h1 h2
 | _=>exact h.renC h1 h2
theorem Qbi.ren (h1:∀B,φ o=some B→φ' o'=some B)(h2:∀p B,p≠o→φ p=some B→φ' p=some B){B:Blk}{ob:Ob}(h:Qbi φ I w B ob):Qbi φ' I w B (ob.ren o o'):=by
 cases ob with
 | var vs=>
  obtain⟨cs,E,e1,e2,e0,e3⟩:=h
  refine⟨cs,E,e1,by simpa using e2,e0,fun j x v hx hv=>?_⟩
  rw [List.getElem?_map]at hv
  obtain⟨u,hu,rfl⟩:=Option.map_eq_some_iff.1 hv
  exact(e3 j x u hx hu).ren h1 h2
 | lp l K vs q=>
  obtain⟨tmps,D,e0,e1,e2,e3,e4⟩:=h
  refine⟨tmps,D,e0,e1,e2,by simpa using e3,fun j x v hx hv=>?_⟩
  rw [List.getElem?_map]at hv
  obtain⟨u,hu,rfl⟩:=Option.map_eq_some_iff.1 hv
  exact(e4 j x u hx hu).ren h1 h2
 | arr z rs=>exact h
 | map l=>exact h
 | grp z l lk=>exact h
 | mapX bm clock L l=>exact h
 | itr bm since seen cur=>exact h
 | itr0=>exact h
end
theorem Qqf {o o':Nat}:∀(l:List (Nat×V)) (t:Nat) (v:V),look (QoV o o' l) t=some v→∃v',look l t=some v'∧v=v'.ren o o':=by
 intro l
 induction l with
 | nil=>intro t v h;cases h
 | cons p l ih=>
  intro t v h
  obtain⟨k,u⟩:=p
  by_cases e:k=t
  ·subst e;rw [QoV,Qq]at h;cases h;exact⟨u,Qq _ _ _,rfl⟩
  ·rw [QoV,Qn _ _ e]at h
   rw [Qn _ _ e];exact ih t v h
theorem QkW {o o':Nat}:∀(l:List (Nat×Ob)) (p:Nat) (ob:Ob),look l o'=none→look l p=some ob→look (QoW o o' l) (bif Nat.beq p o then o' else p)=some (ob.ren o o'):=by
 intro l
 induction l with
 | nil=>intro p ob _ h;cases h
 | cons q l ih=>
  intro p ob hn h
  obtain⟨k,u⟩:=q
  have hk:k≠o':=fun e=>by subst e;rw [Qq]at hn;cases hn
  rw [Qn _ _ hk]at hn
  rw [QoW]
  by_cases e:k=p
  ·subst e;rw [Qq]at h;cases h;exact Qq _ _ _
  ·rw [Qn _ _ e]at h
   have ne:(bif Nat.beq k o then o' else k)≠(bif Nat.beq p o then o' else p):=by
    have hp:p≠o':=fun e'=>by rw [e',hn]at h;cases h
    rcases QdB k o o' with⟨a1,a2⟩|⟨a1,a2⟩<;>rcases QdB p o o' with⟨b1,b2⟩|⟨b1,b2⟩<;>rw [a2,b2]<;>omega
   rw [Qn _ _ ne];exact ih p ob hn h
theorem Qlo {o o':Nat}:∀(l:List (Nat×Ob)) (q:Nat) (ob:Ob),look l o'=none→look (QoW o o' l) q=some ob→∃p ob',q=(bif Nat.beq p o then o' else p)∧look l p=some ob'∧ob=ob'.ren o o':=by
 intro l
 induction l with
 | nil=>intro p ob _ h;cases h
 | cons x l ih=>
  intro q ob hn h
  obtain⟨k,u⟩:=x
  have hk:k≠o':=fun e=>by subst e;rw [Qq]at hn;cases hn
  rw [Qn _ _ hk]at hn
  rw [QoW]at h
  by_cases e:(bif Nat.beq k o then o' else k)=q
  ·subst e;rw [Qq]at h;cases h
   exact⟨k,u,rfl,Qq _ _ _,rfl⟩
  ·rw [Qn _ _ e]at h
   obtain⟨p,ob',h1,h2,h3⟩:=ih q ob hn h
   refine⟨p,ob',h1,?_,h3⟩
   rw [Qn _ _ (fun e2=>e (by rw [e2,h1]))];exact h2
section
variable {C:Ctx}{σ:St}{a:Act}{w:World}
theorem R.ren (h:R C σ a w)(o o':Nat)(ho:Nat.ble 100000 o=false)(ho':Nat.ble 100000 o'=false)(hn:look σ.hp o'=none):R C (σ.ren o o') a w:=by
 obtain⟨φ,hr⟩:=h
 have hφn:=hr.none_of_look hn
 by_cases eo:o=o'
 ·
  subst eo
  have hfr:∀t v,look (QoV o o σ.fr) t=some v→∃v',look σ.fr t=some v'∧v=v'.ren o o:=Qqf σ.fr
  refine⟨φ,hr.os,hr.tape,hr.output,hr.size,hr.kept,hr.inj,fun p B hB=>?_,hr.lt,hr.new,hr.stay.sub (fun q ob hq=>let ⟨p,ob',e1,e2,_⟩:=Qlo σ.hp q ob hn hq;⟨ob',by rcases QdB p o o with⟨a1,a2⟩|⟨a1,a2⟩<;>rw [e1,a2];exact a1▸e2;exact e2⟩),hr.tmps,hr.defers,fun t v hv=>?_,fun q ob hq=>?_⟩
  ·obtain⟨ob,hob⟩:=hr.dom p B hB
   have:=QkW (o:=o) (o':=o) σ.hp p ob hn hob
   rcases QdB p o o with⟨e1,e2⟩|⟨e1,e2⟩
   ·rw [e1,hφn]at hB;cases hB
   ·rw [e2]at this;exact⟨_,this⟩
  ·obtain⟨v',hv',rfl⟩:=hfr t v hv
   obtain⟨x,hx,hrep⟩:=hr.frame t v' hv'
   exact⟨x,hx,hrep.ren (fun B h=>h) (fun p B _ h=>h)⟩
  ·obtain⟨p,ob',e1,e2,rfl⟩:=Qlo σ.hp q ob hn hq
   have:q=p:=by rcases QdB p o o with⟨a1,a2⟩|⟨a1,a2⟩<;>rw [e1,a2];exact a1.symm
   subst this
   rcases hr.heap q ob' e2 with⟨B,hB,hrep⟩|⟨h1,z,rfl⟩
   ·exact .inl ⟨B,hB,hrep.ren (fun B h=>h) (fun p B _ h=>h)⟩
   ·exact .inr ⟨h1,z,rfl⟩
 ·let φ':Nat→Option Blk:=fun k=>if k=o' then φ o else if k=o then none else φ k
  have h1:∀B,φ o=some B→φ' o'=some B:=fun B hB=>by simp only [φ',if_true];exact hB
  have h2:∀p B,p≠o→φ p=some B→φ' p=some B:=fun p B hp hB=>by
   have:p≠o':=fun e=>by rw [e,hφn]at hB;cases hB
   simp only [φ',if_neg this,if_neg hp];exact hB
  have inv:∀q B,φ' q=some B→(q=o'∧φ o=some B)∨(q≠o'∧q≠o∧φ q=some B):=by
   intro q B hB
   simp only [φ']at hB
   split at hB
   ·exact .inl ⟨by assumption,hB⟩
   ·split at hB
    ·cases hB
    ·exact .inr ⟨by assumption,by assumption,hB⟩
  have hI:∀k,Imm C φ w k→Imm C φ' w k:=fun k hk=>⟨hk.1,hk.2.1,fun q B hB=>by
   rcases inv q B hB with⟨_,h⟩|⟨_,_,h⟩
   ·exact hk.2.2 o B h
   ·exact hk.2.2 q B h⟩
  have hlt:o<100000:=by
   rcases Nat.lt_or_ge o 100000 with h | h
   ·exact h
   ·rw [Nat.ble_eq_true_of_le h]at ho;cases ho
  have up:∀{x:Value} {v:V},Rep φ (Imm C φ w) w x v→Rep φ (Imm C φ' w) w x v:=fun h=>h.mono (fun _ _ h=>h) (fun k hk=>⟨hI k hk,rfl⟩)
  refine⟨φ',hr.os,hr.tape,hr.output,hr.size,hr.kept,fun p q B B' k e1 e2 hb hb'=>?_,fun q B hB=>?_,fun q B k hB hk=>?_,fun q B k hB hk hq=>?_,⟨fun q B hq hB=>?_,fun q ob B hge hq hB=>by
   obtain⟨p,ob',e1,e2,_⟩:=Qlo σ.hp q ob hn hq
   have hlt':o'<100000:=by
    rcases Nat.lt_or_ge o' 100000 with h | h
    ·exact h
    ·rw [Nat.ble_eq_true_of_le h]at ho';cases ho'
   have:q=p:=by
    rcases QdB p o o' with⟨a1,a2⟩|⟨a1,a2⟩
    ·rw [a2]at e1;omega
    ·rw [a2]at e1;exact e1
   subst this
   have h1:=hr.stay.2 q ob' B hge e2 hB
   show φ' q=some B
   simp only [φ']
   rw [if_neg (by omega),if_neg (by omega)];exact h1⟩,hr.tmps,hr.defers.mono fun k hk=>⟨hI k hk,rfl⟩,fun t v hv=>?_,fun q ob hq=>?_⟩
  ·rcases inv p B e1 with⟨a1,a2⟩|⟨a1,a2,a3⟩<;>rcases inv q B' e2 with⟨b1,b2⟩|⟨b1,b2,b3⟩
   ·rw [a1,b1]
   ·exact absurd (hr.inj o q B B' k a2 b3 hb hb').symm b2
   ·exact absurd (hr.inj p o B B' k a3 b2 hb hb') a2
   ·exact hr.inj p q B B' k a3 b3 hb hb'
  ·rcases inv q B hB with⟨a1,a2⟩|⟨a1,a2,a3⟩
   ·obtain⟨ob,hob⟩:=hr.dom o B a2
    have:=QkW (o:=o) (o':=o') σ.hp o ob hn hob
    rcases QdB o o o' with⟨_,e⟩|⟨e,_⟩
    ·rw [e]at this;rw [a1];exact⟨_,this⟩
    ·exact absurd rfl e
   ·obtain⟨ob,hob⟩:=hr.dom q B a3
    have:=QkW (o:=o) (o':=o') σ.hp q ob hn hob
    rcases QdB q o o' with⟨e,_⟩|⟨_,e⟩
    ·exact absurd e a2
    ·rw [e]at this;exact⟨_,this⟩
  ·rcases inv q B hB with⟨a1,a2⟩|⟨a1,a2,a3⟩
   ·exact hr.lt o B k a2 hk
   ·exact hr.lt q B k a3 hk
  ·rcases inv q B hB with⟨a1,a2⟩|⟨a1,a2,a3⟩
   ·exact hr.new o B k a2 hk hlt
   ·exact hr.new q B k a3 hk hq
  ·rcases inv q B hB with⟨a1,a2⟩|⟨a1,a2,a3⟩
   ·have:o'<100000:=by
     rcases Nat.lt_or_ge o' 100000 with h | h
     ·exact h
     ·rw [Nat.ble_eq_true_of_le h]at ho';cases ho'
    omega
   ·exact hr.stay.1 q B hq a3
  ·obtain⟨v',hv',rfl⟩:=Qqf _ _ _ hv
   obtain⟨x,hx,hrep⟩:=hr.frame t v' hv'
   exact⟨x,hx,(up hrep).ren h1 h2⟩
  ·obtain⟨p,ob',e1,e2,rfl⟩:=Qlo σ.hp q ob hn hq
   rcases hr.heap p ob' e2 with⟨B,hB,hrep⟩|⟨hnn,z,rfl⟩
   ·have hrep':Qbi φ (Imm C φ' w) w B ob':=hrep.mono (fun _ _ h=>h) (fun k hk=>⟨hI k hk,rfl⟩) fun _ _=>rfl
    refine .inl ⟨B,?_,hrep'.ren h1 h2⟩
    rcases QdB p o o' with⟨a1,a2⟩|⟨a1,a2⟩
    ·rw [e1,a2];exact h1 B (a1▸hB)
    ·rw [e1,a2];exact h2 p B a1 hB
   ·refine .inr ⟨?_,z,rfl⟩
    rcases QdB p o o' with⟨a1,a2⟩|⟨a1,a2⟩
    ·rw [e1,a2];simp only [φ',if_true];rw [←a1];exact hnn
    ·have:p≠o':=fun e=>by rw [e,hn]at e2;cases e2
     rw [e1,a2];simp only [φ',if_neg this,if_neg a1];exact hnn
end
section
variable {P:Program}{C:Ctx}{ops:Array Oper}{σ:St}{Q:Exit→St→Prop}{c:Code}
theorem AL.ren {rest:List Oper}(o o':Nat)(ho:Nat.ble 100000 o=false)(ho':Nat.ble 100000 o'=false)(hn:look σ.hp o'=none)(h:AL P C ops rest (σ.ren o o') Q):AL P C ops rest σ Q:=
 AL.weaken (fun _ _ hR=>hR.ren o o' ho ho' hn) h
theorem AWp.ren (o o':Nat)(ho:Nat.ble 100000 o=false)(ho':Nat.ble 100000 o'=false)(hn:look σ.hp o'=none)(h:AWp P C c (σ.ren o o') Q):AWp P C c σ Q:=
 AWp.weaken (fun _ _ hR=>hR.ren o o' ho ho' hn) h
end
theorem QuZ {α:Type}{f:α→List V}(hf:∀x,(f x).all V.sca=true)(l:List α):∀r∈l.map f,∀v∈r,v.sca=true:=by
 intro r hr v hv
 obtain⟨x,_,rfl⟩:=List.mem_map.1 hr
 have:=hf x
 rw [List.all_eq_true]at this
 exact this v hv
end Go.Vm
