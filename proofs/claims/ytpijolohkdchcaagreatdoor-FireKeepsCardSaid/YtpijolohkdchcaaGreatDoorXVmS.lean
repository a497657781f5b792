/- A part of the proof; what it holds is told at each theorem. -/
import Derived.Test.YtpijolohkdchcaaGreatDoorXVmQ
set_option linter.unusedVariables false
set_option linter.unusedSimpArgs false
set_option linter.unusedSectionVars false
set_option linter.deprecated false
namespace Go.Vm
open Go Go.RowKit
inductive Bnd (σ:St) (dflt:Nat):Option Operand→Nat→Prop where
 | no:Bnd σ dflt none dflt
 | val {x:Operand} {k:IntKind} {n:Int} {l:Nat}:σ.opd x=some (.i k n)→0≤n→n.toNat=l→Bnd σ dflt (some x) l
section
variable {P:Program}{C:Ctx}{σ:St}{o:Oper}{φ:Nat→Option Blk}{a:Act}{w:World}
theorem QhF {k:IntKind}{i:Int}{y:Nat}{code:BoundsCode}(h0:0≤i)(h1:i.toNat≤y):(Instr.sliceBound (.int k i) y code).run P w=.ok i.toNat w:=by
 have:0≤i∧i≤(y:Int):=⟨h0,by omega⟩
 simp [Instr.sliceBound,asIntOf,this]
theorem Qih (hr:RR C φ σ a w){lo hi:Option Operand}{l h len cap:Nat}{b:Bool}(hl:Bnd σ 0 lo l)(hh:Bnd σ len hi h)(h1:l≤h)(h2:h≤cap):
  (Instr.sliceBounds b len cap (lo.map a.eval) (hi.map a.eval) none).run P w=.ok (l,h,cap) w:=by
 cases hl with
 | no=>
  cases hh with
  | no=>simp [Instr.sliceBounds]
  | val e1 e2 e3=>subst e3;simp [Instr.sliceBounds,(hr.opd e1).i_inv,QhF e2 h2]
 | val e1 e2 e3=>
  subst e3
  cases hh with
  | no=>simp [Instr.sliceBounds,(hr.opd e1).i_inv,QhF e2 h1]
  | val f1 f2 f3=>subst f3;simp [Instr.sliceBounds,(hr.opd e1).i_inv,QhF e2 h1,(hr.opd f1).i_inv,QhF f2 h2]
theorem Stp.sliceD {T d l h e z by_:Nat}{x:Operand}{lo hi:Option Operand}{rows us:List (List V)}(ho:o.op=.slice T x lo hi none)(hd:o.dst=some d)(hn:Nat.ble (d+1) C.n=true)(hx:σ.opd x=some (.sl z rows))
  (hT:Qax P T=some (e,z,by_)) (hl:Bnd σ 0 lo l) (hh:Bnd σ rows.length hi h) (h1:l≤h) (h2:h≤rows.length) (hu:(rows.drop l).take (h-l)=us):Stp P C o σ (σ.put d (.sl z us)):=by
 refine Stp.same hd hn fun φ a w hr=>?_
 subst hu
 obtain⟨hu,i,hi',hiz,_⟩:=QbW hT
 rcases(hr.opd hx).sl_inv with⟨a0,cap,he,rfl⟩|⟨b,off,cap,he,hI,hcap,hok,c,hc,hdat⟩
 ·have h0:h=0:=by simpa using h2
  subst h0
  have l0:l=0:=by omega
  subst l0
  refine⟨.slice (if cap=0 then a0 else a0.map (·.add (0*i.size))) 0 cap,?_,.dat (.sl0 _ _ _)⟩
  have hh':Bnd σ 0 hi 0:=hh
  simp [execOp,ho,he,Instr.sliceAt,Instr.slice,run_underlying hu,Qih hr hl hh' h1 (by simp:0≤cap),sizeOf,typeInfo,hi']
 ·refine⟨.slice (if cap=l then some ⟨b,off,none⟩else some ((⟨b,off,none⟩:Addr).add (l*i.size))) (h-l) (cap-l),?_,.dat ?_⟩
  ·simp only [execOp,ho,he,Instr.sliceAt,Instr.slice,run_underlying hu,Option.map_none,Qih hr hl hh h1 (by omega:h≤cap),sizeOf,typeInfo,hi',Sem.run_bind,Sem.run_pure,run_program,Result.andThen_ok,Option.map_some,Option.map_none]
  ·by_cases hlh:h-l=0
   ·rw [hlh];simp only [List.take_zero];exact .sl0 _ _ _
   ·have hcl:cap≠l:=by omega
    rw [if_neg hcl,hiz,Addr.add_lit]
    refine .sl b (off+l*z) (h-l) (cap-l) z _ (fun j=>c (l*z+j)) hI (by simp;omega) (by omega) (fun r hr'=>hok r (List.mem_of_mem_drop (List.mem_of_mem_take hr'))) (fun j hj=>?_) (fun k r hk j v hj=>?_)
    ·have hle:l*z+(h-l)*z≤rows.length*z:=by rw [←Nat.add_mul];exact Nat.mul_le_mul_right _ (by omega)
     have:=hc (l*z+j) (by omega)
     rw [Nat.add_assoc];exact this
    ·rw [List.getElem?_take]at hk
     split at hk
     ·rw [List.getElem?_drop]at hk
      have:=hdat (l+k) r hk j v hj
      rw [Nat.add_mul]at this
      rw [←Nat.add_assoc];exact this
     ·cases hk
theorem RR.shrink (h:RR C φ σ a w){b z:Nat}{rs:List (List V)}(hb:look σ.hp b=some (.arr z rs))(n:Nat):RR C φ (σ.set b (.arr z (rs.take n))) a w:=by
 refine⟨h.os,h.tape,h.output,h.size,h.kept,h.inj,fun o B hB=>?_,h.lt,h.new,h.stay.set hb,h.tmps,h.defers,h.frame,fun o ob hob=>?_⟩
 ·by_cases e:o=b
  ·subst e;exact⟨_,σ.look_set_same _ _⟩
  ·obtain⟨ob,h1⟩:=h.dom o B hB;exact⟨ob,by rw [σ.look_set_other _ (Ne.symm e)];exact h1⟩
 ·by_cases e:o=b
  ·subst e;rw [σ.look_set_same]at hob;cases hob
   rcases h.heap o _ hb with⟨B,hB,h1,h2,h3,cs,E,h4,h5,h6⟩|⟨h1,z',h2⟩
   ·refine .inl ⟨B,hB,h1,by simp;omega,fun r hr=>h3 r (List.mem_of_mem_take hr),cs,E,h4,h5,fun i r hi=>?_⟩
    rw [List.getElem?_take]at hi
    split at hi
    ·exact h6 i r hi
    ·cases hi
   ·cases h2;exact .inr ⟨h1,z,by simp⟩
  ·rw [σ.look_set_other _ (Ne.symm e)]at hob;exact h.heap o ob hob
theorem Stp.sliceO {T d b n h e z by_:Nat}{x:Operand}{lo hi:Option Operand}{rs us:List (List V)}(ho:o.op=.slice T x lo hi none)(hd:o.dst=some d)(hn:Nat.ble (d+1) C.n=true)(hx:σ.opd x=some (.own b n))
  (hb:look σ.hp b=some (.arr z rs)) (hT:Qax P T=some (e,z,by_)) (hl:Bnd σ 0 lo 0) (hh:Bnd σ n hi h) (h2:h≤n) (hu:rs.take h=us):Stp P C o σ ((σ.set b (.arr z us)).put d (.own b h)):=by
 refine Stp.val fun φ a w hr=>?_
 subst hu
 obtain⟨hu,i,hi',hiz,_⟩:=QbW hT
 have hs:=hr.shrink hb h
 rcases(hr.opd hx).own_inv with⟨he,rfl⟩|⟨B,hB,hcap,he⟩
 ·have h0:h=0:=by omega
  subst h0
  refine⟨.slice none 0 0,w,φ,?_,by rw [hd];exact hs.put (QS hn) (.own0 b)⟩
  simp [execOp,ho,he,Instr.sliceAt,Instr.slice,run_underlying hu,Qih hr hl hh (by omega) (by omega:0≤0),sizeOf,typeInfo,hi']
 ·refine⟨.slice (some ⟨B.b,B.off,none⟩) h B.cap,w,φ,?_,by rw [hd];exact hs.put (QS hn) (.own b h B hB (by omega))⟩
  simp only [execOp,ho,he,Instr.sliceAt,Instr.slice,run_underlying hu,Qih hr hl hh (by omega) (by omega:h≤B.cap),sizeOf,typeInfo,hi',Sem.run_bind,Sem.run_pure,run_program,Result.andThen_ok,Option.map_some,Option.map_none,Nat.zero_mul,Addr.add_lit,Nat.add_zero,ite_self,Nat.sub_zero]
def QoY (P:Program)(T:TypeId):Bool:=match P.underlying T with
 | some (.interface _)=>false
 | some _=>true
 | none=>false
theorem Qrq {T:TypeId}(h:QoY P T=true):∃D,P.underlying T=some D∧∀m,D≠.interface m:=by
 unfold QoY at h
 split at h
 ·cases h
 ·rename_i D hne he;exact⟨D,he,fun m e=>hne m (by rw [e])⟩
 ·cases h
theorem Stp.makeInterface {T d:Nat}{x:Operand}{v:V}(ho:o.op=.makeInterface T x)(hd:o.dst=some d)(hn:Nat.ble (d+1) C.n=true)(hx:σ.opd x=some v)(hT:QoY P T=true):Stp P C o σ (σ.put d (.ifc T v)):=by
 refine Stp.same hd hn fun φ a w hr=>⟨.iface T (a.eval x),?_,.ifc T _ _ (hr.opd hx)⟩
 obtain⟨D,hD,hne⟩:=Qrq hT
 have:(Instr.makeInterface T (a.eval x)).run P w=.ok (.iface T (a.eval x)) w:=by
  simp only [Instr.makeInterface,Sem.run_bind,run_underlying hD,Result.andThen_ok]
  cases D<;>first | rfl | exact absurd rfl (hne _)
 simp only [execOp,ho,Sem.run_bind,this,Result.andThen_ok,Sem.run_pure]
theorem Stp.typeAssert {T S d:Nat}{x:Operand}{v:V}(ho:o.op=.typeAssert x S T false)(hd:o.dst=some d)(hn:Nat.ble (d+1) C.n=true)(hx:σ.opd x=some (.ifc T v))(hT:QoY P T=true):Stp P C o σ (σ.put d v):=by
 refine Stp.same hd hn fun φ a w hr=>?_
 obtain⟨y,he,hy⟩:=(hr.opd hx).ifc_inv
 refine⟨y,?_,hy⟩
 obtain⟨D,hD,hne⟩:=Qrq hT
 have:(Instr.typeAssert (.iface T y) S T false).run P w=.ok y w:=by
  simp only [Instr.typeAssert,Sem.run_bind,run_underlying hD,Result.andThen_ok]
  cases D<;>first | simp | exact absurd rfl (hne _)
 simp only [execOp,ho,he,Sem.run_bind,this,Result.andThen_ok,Sem.run_pure]
theorem Stp.nilCheckL {d b i k:Nat}{x:Operand}(ho:o.op=.nilCheck x)(hd:o.dst=some d)(hn:Nat.ble (d+1) C.n=true)(hx:σ.opd x=some (.loc b i k)):Stp P C o σ (σ.put d (.loc b i k)):=by
 refine Stp.same hd hn fun φ a w hr=>⟨a.eval x,?_,hr.opd hx⟩
 obtain⟨B,hB,he⟩:=(hr.opd hx).loc_inv
 simp [execOp,ho,he]
theorem Stp.makeFunc {d:Nat}{fn:Fn}{first caps:Array Operand}{vs us:List V}(ho:o.op=.makeFunc fn first caps)(hd:o.dst=some d)(hn:Nat.ble (d+1) C.n=true)(h1:σ.opsV first.toList=some vs)(h2:σ.opsV caps.toList=some us):
  Stp P C o σ (σ.put d (.clo fn vs us)):=by
 refine Stp.same hd hn fun φ a w hr=>?_
 obtain⟨a1,a2⟩:=hr.opsV _ _ h1
 obtain⟨b1,b2⟩:=hr.opsV _ _ h2
 refine⟨.func fn (first.map a.eval) (caps.map a.eval),by simp [execOp,ho,Instr.makeFunc],.clo fn _ _ _ _ (by simpa using a1) (by simpa using b1) (fun j x v hx hv=>?_) fun j x v hx hv=>?_⟩
 ·rw [Array.getElem?_map,Option.map_eq_some_iff]at hx
  obtain⟨y,hy,rfl⟩:=hx
  exact a2 j y v (by simpa using hy) hv
 ·rw [Array.getElem?_map,Option.map_eq_some_iff]at hx
  obtain⟨y,hy,rfl⟩:=hx
  exact b2 j y v (by simpa using hy) hv
end
end Go.Vm
