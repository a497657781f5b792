/- A part of the proof; what it holds is told at each theorem. -/
import Derived.Test.YtpijolohkdchcaaGreatDoorXVmC
set_option linter.unusedVariables false
set_option linter.unusedSimpArgs false
set_option linter.unusedSectionVars false
set_option linter.deprecated false
namespace Go.Vm
open Go Go.RowKit
def ext (φ:Nat→Option Blk)(o:Nat)(B:Blk):Nat→Option Blk:=fun k=>if k=o then some B else φ k
theorem QM (φ:Nat→Option Blk)(o:Nat)(B:Blk):ext φ o B o=some B:=by simp [ext]
theorem QG {φ:Nat→Option Blk}{o k:Nat}(B:Blk)(h:k≠o):ext φ o B k=φ k:=by simp [ext,h]
theorem St.look_set_same (σ:St)(o:Nat)(ob:Ob):look (σ.set o ob).hp o=some ob:=Qq _ _ _
theorem St.look_set_other (σ:St){o k:Nat}(ob:Ob)(h:o≠k):look (σ.set o ob).hp k=look σ.hp k:=Qn _ _ h
theorem Ctx.slot (C:Ctx){d:Nat}(hn:Nat.ble (d+1) C.n=true):d<200000:=by
 have:=Nat.le_of_ble_eq_true hn;have:=C.small;omega
section
variable {C:Ctx}{φ:Nat→Option Blk}{σ:St}{a:Act}{w:World}
theorem Qmg.set {φ0:Nat→Option Blk}{b:Nat}{ob ob':Ob}(h:Qmg φ0 φ σ.hp)(hb:look σ.hp b=some ob):Qmg φ0 φ (σ.set b ob').hp:=h.sub fun o ob2 ho=>by
 by_cases e:o=b
 ·subst e;exact⟨_,hb⟩
 ·rw [σ.look_set_other _ (Ne.symm e)]at ho;exact⟨_,ho⟩
theorem RR.none_of_look (h:RR C φ σ a w){o:Nat}(ho:look σ.hp o=none):φ o=none:=by
 cases hb:φ o with
 | none=>rfl
 | some B=>obtain⟨ob,h2⟩:=h.dom o B hb;rw [ho]at h2;cases h2
theorem Qlt {b cap z k:Nat}(h:({ b:=b,cap:=cap,z:=z }:Blk).has k):k=b:=by
 rcases h with h | h
 ·exact h
 ·cases h
theorem RR.imm_alloc (h:RR C φ σ a w)(o cap z:Nat)(obj:Obj)(hn:φ o=none):
  ∀k,Imm C φ w k→Imm C (ext φ o ⟨w.heap.size,cap,z,[],0⟩) (w.alloc obj) k∧(w.alloc obj).heap[k]? = w.heap[k]? := by
 intro k ⟨h1,h2,h3⟩
 refine⟨⟨by simp;omega,h2,fun o' B hB=>?_⟩,Below.heap_alloc w obj k h1⟩
 by_cases ho:o'=o
 ·subst ho;rw [QM]at hB;cases hB;intro hh;have:=Qlt hh;omega
 ·rw [QG _ ho]at hB;exact h3 o' B hB
theorem RR.mono_ext (h:RR C φ σ a w){o:Nat}(B:Blk)(hn:φ o=none):∀o' B',φ o'=some B'→ext φ o B o'=some B':=by
 intro o' B' hB
 rw [QG _ (fun e=>by subst e;rw [hn]at hB;cases hB)];exact hB
theorem RR.alloc (h:RR C φ σ a w){o cap z:Nat}(ho:look σ.hp o=none)(hlt:o<200000){ob:Ob}{obj:Obj}
  (hrep:Qbi (ext φ o ⟨w.heap.size,cap,z,[],0⟩) (Imm C (ext φ o ⟨w.heap.size,cap,z,[],0⟩) (w.alloc obj)) (w.alloc obj) ⟨w.heap.size,cap,z,[],0⟩ ob):
  RR C (ext φ o ⟨w.heap.size,cap,z,[],0⟩) (σ.set o ob) a (w.alloc obj):=by
 have hn:=h.none_of_look ho
 have hI:=h.imm_alloc o cap z obj hn
 have hm:=h.mono_ext ⟨w.heap.size,cap,z,[],0⟩ hn
 refine⟨h.os,h.tape,h.output,by have:=h.size;simp;omega,fun k h1 h2=>?_,?_,?_,?_,?_,⟨?_,fun o' ob' B hge ho' hB=>by rw [QG _ (by omega)];exact h.stay.2 o' ob' B hge (by rwa [σ.look_set_other _ (by omega)]at ho') hB⟩,h.tmps,h.defers.mono hI,?_,?_⟩
 ·rw [Below.heap_alloc w obj k (Nat.lt_of_lt_of_le h1 h.size)];exact h.kept k h1 h2
 ·intro o1 o2 B1 B2 k h1 h2 b1 b2
  by_cases e1:o1=o<;>by_cases e2:o2=o
  ·rw [e1,e2]
  ·subst e1;rw [QM]at h1;cases h1;rw [QG _ e2]at h2
   have:=(h.lt o2 B2 k h2 b2).1;have:=Qlt b1;omega
  ·subst e2;rw [QM]at h2;cases h2;rw [QG _ e1]at h1
   have:=(h.lt o1 B1 k h1 b1).1;have:=Qlt b2;omega
  ·rw [QG _ e1]at h1;rw [QG _ e2]at h2;exact h.inj o1 o2 B1 B2 k h1 h2 b1 b2
 ·intro o' B hB
  by_cases e:o'=o
  ·subst e;exact⟨ob,σ.look_set_same _ _⟩
  ·rw [QG _ e]at hB;obtain⟨ob',h'⟩:=h.dom o' B hB;exact⟨ob',by rw [σ.look_set_other _ (Ne.symm e)];exact h'⟩
 ·intro o' B k hB hk
  by_cases e:o'=o
  ·subst e;rw [QM]at hB;cases hB;rw [Qlt hk];exact⟨by simp,fun hlt=>absurd h.size (by omega)⟩
  ·rw [QG _ e]at hB;have:=h.lt o' B k hB hk;exact⟨by simp;omega,this.2⟩
 ·intro o' B k hB hk hlt
  by_cases e:o'=o
  ·subst e;rw [QM]at hB;cases hB;rw [Qlt hk];exact h.size
  ·rw [QG _ e]at hB;exact h.new o' B k hB hk hlt
 ·intro o' B hge hB
  rw [QG _ (by omega)]at hB;exact h.stay.1 o' B hge hB
 ·intro t v hv
  obtain⟨x,hx,hr⟩:=h.frame t v hv
  exact⟨x,hx,hr.mono hm hI⟩
 ·intro o' ob' ho'
  by_cases e:o'=o
  ·subst e;rw [σ.look_set_same]at ho';cases ho';exact .inl ⟨_,QM _ _ _,hrep⟩
  ·rw [σ.look_set_other _ (Ne.symm e)]at ho'
   rcases h.heap o' ob' ho' with⟨B,hB,hr⟩|⟨h1,h2⟩
   ·exact .inl ⟨B,by rw [QG _ e];exact hB,hr.mono hm hI fun k hk=>Below.heap_alloc w obj _ (h.lt o' B k hB hk).1⟩
   ·exact .inr ⟨by rw [QG _ e];exact h1,h2⟩
theorem RR.change (h:RR C φ σ a w){o:Nat}{B:Blk}(hB:φ o=some B){B':Blk}(hb:B'.b=B.b∧B'.cap=B.cap∧B'.z=B.z∧B'.off=B.off)(hst:200000≤o→B'=B){ob:Ob}{w':World}(ho:w'.os=w.os)(ht:w'.tape=w.tape)(hu:w'.output=w.output)
  (hs:w.heap.size≤w'.heap.size) (hk:∀k,k<w.heap.size→¬B.has k→w'.heap[k]? = w.heap[k]?) (hB':∀k,B'.has k→k<w'.heap.size∧(B.has k∨w.heap.size≤k))
  (hrep:Qbi (ext φ o B') (Imm C (ext φ o B') w') w' B' ob):RR C (ext φ o B') (σ.set o ob) a w':=by
 have hI:∀k,Imm C φ w k→Imm C (ext φ o B') w' k∧w'.heap[k]? = w.heap[k]? := fun k hk'=>by
  refine⟨⟨Nat.lt_of_lt_of_le hk'.1 hs,hk'.2.1,fun o' B1 h1=>?_⟩,hk k hk'.1 (hk'.2.2 o B hB)⟩
  by_cases e:o'=o
  ·subst e;rw [QM]at h1;cases h1
   intro hh
   rcases(hB' k hh).2 with h2 | h2
   ·exact hk'.2.2 o' B hB h2
   ·have:=hk'.1;omega
  ·rw [QG _ e]at h1;exact hk'.2.2 o' B1 h1
 have hrepV:∀{x:Value} {v:V},Rep φ (Imm C φ w) w x v→Rep (ext φ o B') (Imm C (ext φ o B') w') w' x v:=by
  intro x v hr
  induction hr with
  | dat d=>exact .dat (d.mono hI)
  | own0 p=>exact .own0 p
  | own p n B1 h1 hn=>
   by_cases e:p=o
   ·subst e;rw [hB]at h1;cases h1
    have:=Rep.own (φ:=ext φ p B') (I:=Imm C (ext φ p B') w') (w:=w') p n B' (QM _ _ _) (by rw [hb.2.1];exact hn)
    rwa [hb.1,hb.2.1,hb.2.2.2]at this
   ·exact .own p n B1 (by rw [QG _ e];exact h1) hn
  | loc p i d B1 h1=>
   by_cases e:p=o
   ·subst e;rw [hB]at h1;cases h1
    have:=Rep.loc (φ:=ext φ p B') (I:=Imm C (ext φ p B') w') (w:=w') p i d B' (QM _ _ _)
    rwa [hb.1,hb.2.2.1,hb.2.2.2]at this
   ·exact .loc p i d B1 (by rw [QG _ e];exact h1)
  | map p B1 h1=>
   by_cases e:p=o
   ·subst e;rw [hB]at h1;cases h1
    have:=Rep.map (φ:=ext φ p B') (I:=Imm C (ext φ p B') w') (w:=w') p B' (QM _ _ _)
    rwa [hb.1]at this
   ·exact .map p B1 (by rw [QG _ e];exact h1)
  | agg xs cs hs _ ih=>exact .agg xs cs hs ih
  | tup xs cs hs _ ih=>exact .tup xs cs hs ih
  | ifc t x v _ ih=>exact .ifc t x v ih
  | clo fn xs ys vs us h1 h2 _ _ ih1 ih2=>exact .clo fn xs ys vs us h1 h2 ih1 ih2
 have old:∀o' B1,o'≠o→φ o'=some B1→∀k,B1.has k→w'.heap[k]? = w.heap[k]? := fun o' B1 hne h1 k hk1=>
  hk k (h.lt o' B1 k h1 hk1).1 fun h2=>hne (h.inj o' o B1 B k h1 hB hk1 h2)
 refine⟨ho.trans h.os,ht.trans h.tape,hu.trans h.output,Nat.le_trans h.size hs,fun k h1 h2=>?_,?_,?_,?_,?_,⟨?_,fun o' ob' B1 hge ho' h1=>by
  by_cases e:o'=o
  ·subst e;rw [QM,hst hge];have:=h.stay.1 o' B hge hB;rw [h1]at this;exact this.symm
  ·rw [QG _ e];exact h.stay.2 o' ob' B1 hge (by rwa [σ.look_set_other _ (Ne.symm e)]at ho') h1⟩,h.tmps,h.defers.mono hI,?_,?_⟩
 ·refine(hk k (Nat.lt_of_lt_of_le h1 h.size) fun hh=>h2 ((h.lt o B k hB hh).2 h1)).trans (h.kept k h1 h2)
 ·intro o1 o2 B1 B2 k h1 h2 b1 b2
  by_cases e1:o1=o<;>by_cases e2:o2=o
  ·rw [e1,e2]
  ·subst e1;rw [QM]at h1;cases h1;rw [QG _ e2]at h2
   rcases(hB' k b1).2 with h3 | h3
   ·exact h.inj o1 o2 B B2 k hB h2 h3 b2
   ·have:=(h.lt o2 B2 k h2 b2).1;omega
  ·subst e2;rw [QM]at h2;cases h2;rw [QG _ e1]at h1
   rcases(hB' k b2).2 with h3 | h3
   ·exact h.inj o1 o2 B1 B k h1 hB b1 h3
   ·have:=(h.lt o1 B1 k h1 b1).1;omega
  ·rw [QG _ e1]at h1;rw [QG _ e2]at h2;exact h.inj o1 o2 B1 B2 k h1 h2 b1 b2
 ·intro o' B1 h1
  by_cases e:o'=o
  ·subst e;exact⟨ob,σ.look_set_same _ _⟩
  ·rw [QG _ e]at h1;obtain⟨ob',h'⟩:=h.dom o' B1 h1;exact⟨ob',by rw [σ.look_set_other _ (Ne.symm e)];exact h'⟩
 ·intro o' B1 k h1 hk1
  by_cases e:o'=o
  ·subst e;rw [QM]at h1;cases h1
   refine⟨(hB' k hk1).1,fun hlt=>?_⟩
   rcases(hB' k hk1).2 with h3 | h3
   ·exact(h.lt o' B k hB h3).2 hlt
   ·exact absurd h.size (by omega)
  ·rw [QG _ e]at h1;have:=h.lt o' B1 k h1 hk1;exact⟨by omega,this.2⟩
 ·intro o' B1 k h1 hk1 hlt
  by_cases e:o'=o
  ·subst e;rw [QM]at h1;cases h1
   rcases(hB' k hk1).2 with h3 | h3
   ·exact h.new o' B k hB h3 hlt
   ·have:=h.size;omega
  ·rw [QG _ e]at h1;exact h.new o' B1 k h1 hk1 hlt
 ·intro o' B1 hge h1
  by_cases e:o'=o
  ·subst e;rw [QM]at h1;cases h1;rw [hst hge];exact h.stay.1 o' B hge hB
  ·rw [QG _ e]at h1;exact h.stay.1 o' B1 hge h1
 ·intro t v hv
  obtain⟨x,hx,hr⟩:=h.frame t v hv
  exact⟨x,hx,hrepV hr⟩
 ·intro o' ob' ho'
  by_cases e:o'=o
  ·subst e;rw [σ.look_set_same]at ho';cases ho';exact .inl ⟨B',QM _ _ _,hrep⟩
  ·rw [σ.look_set_other _ (Ne.symm e)]at ho'
   rcases h.heap o' ob' ho' with⟨B1,h1,hr⟩|⟨h1,h2⟩
   ·refine .inl ⟨B1,by rw [QG _ e];exact h1,?_⟩
    cases ob' with
    | var vs=>
     obtain⟨cs,E,a1,a2,a0,a3⟩:=hr
     exact⟨cs,E,(old o' B1 e h1 _ B1.self).trans a1,a2,a0,fun j x v hx hv=>hrepV (a3 j x v hx hv)⟩
    | lp l K vs q=>
     obtain⟨tmps,D,rfl,a1,a2,a3,a4⟩:=hr
     exact⟨tmps,D,rfl,a1,(old o' B1 e h1 _ B1.self).trans a2,a3,fun j x v hx hv=>hrepV (a4 j x v hx hv)⟩
    | arr z rs=>exact QaC.mono hI (old o' B1 e h1 _ B1.self) hr
    | map l=>exact Qdy.mono hI (old o' B1 e h1 _ B1.self) hr
    | grp z l lk=>exact Qdz.mono hI (old o' B1 e h1) hr
    | mapX bm clock L l=>exact Qfl.mono hI (old o' B1 e h1 _ B1.self) hr
    | itr bm since seen cur=>exact Qlv.mono (old o' B1 e h1 _ B1.self) hr
    | itr0=>obtain⟨s,c,h3⟩:=hr;exact⟨s,c,(old o' B1 e h1 _ B1.self).trans h3.1,h3.2⟩
   ·exact .inr ⟨by rw [QG _ e];exact h1,h2⟩
theorem QrW {φ:Nat→Option Blk}{o:Nat}{B:Blk}(h:φ o=some B):ext φ o B=φ:=by
 funext k
 by_cases e:k=o
 ·subst e;rw [QM,h]
 ·rw [QG _ e]
theorem RR.write (h:RR C φ σ a w){o:Nat}{B:Blk}(hB:φ o=some B){ob:Ob}{w':World}(ho:w'.os=w.os)(ht:w'.tape=w.tape)(hu:w'.output=w.output)
  (hs:w'.heap.size=w.heap.size) (hk:∀k,k≠B.b→w'.heap[k]? = w.heap[k]?) (hrep:Qbi φ (Imm C φ w') w' B ob):RR C φ (σ.set o ob) a w':=by
 have:=h.change hB (B':=B) ⟨rfl,rfl,rfl,rfl⟩ (fun _=>rfl) (ob:=ob) (w':=w') ho ht hu (by omega) (fun k _ hne=>hk k fun e=>hne (.inl e)) (fun k hk=>⟨by rw [hs];exact(h.lt o B k hB hk).1,.inl hk⟩) (by rw [QrW hB];exact hrep)
 rwa [QrW hB]at this
theorem RR.block (h:RR C φ σ a w){o:Nat}{B:Blk}(hB:φ o=some B){ob:Ob}(ho:look σ.hp o=some ob):Qbi φ (Imm C φ w) w B ob:=by
 rcases h.heap o ob ho with⟨B',hB',hr⟩|⟨hn,_⟩
 ·rw [hB]at hB';cases hB';exact hr
 ·rw [hn]at hB;cases hB
end
theorem Dat.const {I:Nat→Prop}{w:World}(x:Value):Dat I w x (Qfm x):=by
 cases x<;>first | exact .b _ | exact .i _ _ | exact .s _ | exact .lit _
def V.plain : V→Bool
 | .b _=>true
 | .i _ _=>true
 | .s _=>true
 | .lit _=>true
 | .J=>true
 | .sl _ _=>true
 | .ro _=>true
 | _=>false
theorem Rep.plain {φ:Nat→Option Blk}{I:Nat→Prop}{w:World}{x:Value}{v:V}(h:Rep φ I w x v)(hv:v.plain=true):Dat I w x v:=by
 cases h with
 | dat h=>exact h
 | _=>cases hv
theorem Rep.aggPlain {φ:Nat→Option Blk}{I:Nat→Prop}{w:World}{xs:Array Value}{cs:List V}(hs:xs.size=cs.length)(hr:∀(j:Nat) x v,xs[j]? = some x→cs[j]? = some v→Rep φ I w x v)(hv:cs.all V.plain=true):Dat I w (.agg xs) (.agg cs):=by
 rw [List.all_eq_true]at hv
 exact .agg xs cs hs fun j x v hx hv'=>(hr j x v hx hv').plain (hv v (List.mem_of_getElem? hv'))
def V.dat : V→Bool
 | .own _ _=>false
 | .loc _ _ _=>false
 | .map _=>false
 | .clo _ _ _=>false
 | .agg cs=>cs.all V.plain
 | .tup _=>false
 | .ifc _ x=>x.dat
 | _=>true
theorem Rep.toDat {φ:Nat→Option Blk}{I:Nat→Prop}{w:World}{x:Value}{v:V}(h:Rep φ I w x v)(hv:v.dat=true):Dat I w x v:=by
 induction h with
 | dat h=>exact h
 | ifc t x v h ih=>exact .ifc t x v (ih (by simpa [V.dat] using hv))
 | agg xs cs hs hr _=>exact Rep.aggPlain hs hr hv
 | _=>simp [V.dat]at hv
section
variable {P:Program}{C:Ctx}{σ:St}{o:Oper}
theorem Stp.alloc {T d:Nat}{zs:List V}(ho:o.op=.alloc T)(hd:o.dst=some d)(hn:Nat.ble (d+1) C.n=true)(hz:Qap P T=some zs)(hf:look σ.hp d=none):
  Stp P C o σ ((σ.set d (.var zs)).put d (.loc d 0 0)):=by
 refine Stp.val fun φ a w hr=>?_
 unfold Qap at hz
 split at hz
 ·rename_i i hi
  split at hz
  ·rename_i z hzz
   cases hz
   refine⟨.pointer (some ⟨w.heap.size,0,none⟩),w.alloc (.cells z.cells T),ext φ d ⟨w.heap.size,1,0,[],0⟩,?_,?_⟩
   ·simp [execOp,ho,Instr.alloc,zeroValue,typeInfo,hi,hzz,newVar,newRow]
   ·have hnew:=(hr.alloc (cap:=1) (z:=0) hf (C.slot hn) (ob:=.var (z.cells.toList.map Qfm)) (obj:=.cells z.cells T)
     ⟨z.cells,T,heap_alloc_new w _,by simp,rfl,fun j x v hx hv=>by
      simp [hx]at hv;subst hv;exact .dat (Dat.const _)⟩)
    rw [hd]
    refine hnew.put (QS hn) ?_
    have:=Rep.loc (φ:=ext φ d ⟨w.heap.size,1,0,[],0⟩) (I:=Imm C (ext φ d ⟨w.heap.size,1,0,[],0⟩) (w.alloc (.cells z.cells T))) (w:=w.alloc (.cells z.cells T)) d 0 0 _ (QM _ _ _)
    simpa using this
  ·cases hz
 ·cases hz
theorem Stp.box {T d:Nat}{x:Operand}{v:V}(ho:o.op=.box T x)(hd:o.dst=some d)(hn:Nat.ble (d+1) C.n=true)(hx:σ.opd x=some v)(h1:v.one=true∨∃cs,v=.agg cs)
  (hf:look σ.hp d=none):Stp P C o σ ((σ.set d (.var v.cells)).put d (.loc d 0 0)):=by
 refine Stp.val fun φ a w hr=>?_
 have hv:=hr.opd hx
 obtain⟨hs,hc⟩:=hv.cells h1
 refine⟨.pointer (some ⟨w.heap.size,0,none⟩),w.alloc (.cells (a.eval x).cells T),ext φ d ⟨w.heap.size,1,0,[],0⟩,?_,?_⟩
 ·simp [execOp,ho,Instr.box,newVar,newRow]
 ·have hN:=hr.none_of_look hf
  have hnew:=(hr.alloc (cap:=1) (z:=0) hf (C.slot hn) (ob:=.var v.cells) (obj:=.cells (a.eval x).cells T)
   ⟨(a.eval x).cells,T,heap_alloc_new w _,hs,rfl,fun j x v hx hv=>(hc j x v hx hv).mono (hr.mono_ext _ hN) (hr.imm_alloc d 1 0 _ hN)⟩)
  rw [hd]
  refine hnew.put (QS hn) ?_
  have:=Rep.loc (φ:=ext φ d ⟨w.heap.size,1,0,[],0⟩) (I:=Imm C (ext φ d ⟨w.heap.size,1,0,[],0⟩) (w.alloc (.cells (a.eval x).cells T))) (w:=w.alloc (.cells (a.eval x).cells T)) d 0 0 _ (QM _ _ _)
  simpa using this
theorem QiJ {T:Nat}{w:World}{p:Addr}{x:Value}(hg:aggB P T=some false)(hc:w.cell? p=some x):(Instr.loadAt T (.pointer (some p))).run P w=.ok x w:=by
 simp [Instr.loadAt,Instr.sureAddr,loadVar,Qmj hg,hc]
theorem QkJ {T n:Nat}{w:World}{p:Addr}(c:Nat→Value)(hg:aggB P T=some true)(hs:Qfy P T=some n)(hc:∀j,j<n→w.cell? (p.add j)=some (c j)):
  (Instr.loadAt T (.pointer (some p))).run P w=.ok (.agg ((List.range n).map c).toArray) w:=by
 simp only [Instr.loadAt,Instr.sureAddr,loadVar,Sem.run_bind,Sem.run_pure,Result.andThen_ok,Qmj hg,if_true,Qm6 hs]
 rw [run_loadCells w p n c hc]
 simp
theorem Stp.load1L {T d b off:Nat}{x:Operand}{cs:List V}{v:V}(ho:o.op=.load T x)(hd:o.dst=some d)(hn:Nat.ble (d+1) C.n=true)(hx:σ.opd x=some (.loc b 0 off))
  (hb:look σ.hp b=some (.var cs)) (hg:aggB P T=some false) (hv:cs[off]? = some v):Stp P C o σ (σ.put d v):=by
 refine Stp.same hd hn fun φ a w hr=>?_
 obtain⟨B,hB,he⟩:=(hr.opd hx).loc_inv
 obtain⟨xs,E,h1,h2,h0,h3⟩:=hr.block hB hb
 have hlt:off<xs.size:=by rw [h2];exact(List.getElem?_eq_some_iff.1 hv).1
 have hc:w.cell? ⟨B.b,B.off+(0*B.z+off),none⟩=some xs[off]:=by simp [World.cell?,h1,hlt,h0]
 refine⟨xs[off],?_,h3 off _ v (by simp [hlt]) hv⟩
 simp only [execOp,ho,he,Sem.run_bind,QiJ hg hc,Result.andThen_ok,Sem.run_pure]
theorem Stp.loadAL {T d b off n:Nat}{x:Operand}{cs vs:List V}(ho:o.op=.load T x)(hd:o.dst=some d)(hn:Nat.ble (d+1) C.n=true)(hx:σ.opd x=some (.loc b 0 off))
  (hb:look σ.hp b=some (.var cs)) (hg:aggB P T=some true) (hs:Qfy P T=some n) (hle:Nat.ble (off+n) cs.length=true) (hv:(cs.drop off).take n=vs):Stp P C o σ (σ.put d (.agg vs)):=by
 refine Stp.same hd hn fun φ a w hr=>?_
 have hle:=Nat.le_of_ble_eq_true hle
 obtain⟨B,hB,he⟩:=(hr.opd hx).loc_inv
 obtain⟨xs,E,h1,h2,h0,h3⟩:=hr.block hB hb
 have hc:∀j,j<n→w.cell? ((⟨B.b,B.off+(0*B.z+off),none⟩:Addr).add j)=some (xs.getD (off+j) undef):=by
  intro j hj
  have:off+j<xs.size:=by omega
  simp [Addr.add_lit,World.cell?,h1,Array.getD,this,h0]
 refine⟨.agg ((List.range n).map fun j=>xs.getD (off+j) undef).toArray,by simp only [execOp,ho,he,Sem.run_bind,QkJ _ hg hs hc,Result.andThen_ok,Sem.run_pure],.agg _ _ ?_ ?_⟩
 ·subst hv;simp;omega
 ·intro j y u hy hu
  subst hv
  simp only [List.getElem?_toArray,List.getElem?_map,Option.map_eq_some_iff,List.getElem?_eq_some_iff,List.length_range,List.getElem_range]at hy
  obtain⟨_,⟨hj,rfl⟩,rfl⟩:=hy
  have hlt:off+j<xs.size:=by omega
  refine h3 (off+j) _ u (by simp [Array.getD,hlt]) ?_
  rwa [List.getElem?_take,if_pos hj,List.getElem?_drop]at hu
theorem QaC.cell {I:Nat→Prop}{w:World}{B:Blk}{z:Nat}{rs:List (List V)}(h:QaC I w B z rs){i off:Nat}{r:List V}{v:V}(hi:rs[i]? = some r)(hv:r[off]? = some v):
  ∃y,w.cell? ⟨B.b,B.off+(i*B.z+off),none⟩=some y∧Dat I w y v:=by
 obtain⟨hz,_,_,xs,E,h1,h2,h3⟩:=h
 obtain⟨y,hy,hr⟩:=h3 i r hi off v hv
 exact⟨y,by simp [World.cell?,h1,hz,hy],hr⟩
theorem Stp.load1A {T d b i off z:Nat}{x:Operand}{rs:List (List V)}{r:List V}{v:V}(ho:o.op=.load T x)(hd:o.dst=some d)(hn:Nat.ble (d+1) C.n=true)(hx:σ.opd x=some (.loc b i off))
  (hb:look σ.hp b=some (.arr z rs)) (hg:aggB P T=some false) (hi:rs[i]? = some r) (hv:r[off]? = some v):Stp P C o σ (σ.put d v):=by
 refine Stp.same hd hn fun φ a w hr=>?_
 obtain⟨B,hB,he⟩:=(hr.opd hx).loc_inv
 obtain⟨y,hc,hy⟩:=QaC.cell (hr.block hB hb) hi hv
 exact⟨y,by simp [execOp,ho,he,QiJ hg hc],.dat hy⟩
theorem Stp.loadAA {T d b i off z n:Nat}{x:Operand}{rs:List (List V)}{r vs:List V}(ho:o.op=.load T x)(hd:o.dst=some d)(hn:Nat.ble (d+1) C.n=true)(hx:σ.opd x=some (.loc b i off))
  (hb:look σ.hp b=some (.arr z rs)) (hg:aggB P T=some true) (hs:Qfy P T=some n) (hi:rs[i]? = some r) (hle:Nat.ble (off+n) r.length=true) (hv:(r.drop off).take n=vs):
  Stp P C o σ (σ.put d (.agg vs)):=by
 refine Stp.same hd hn fun φ a w hr=>?_
 have hle:=Nat.le_of_ble_eq_true hle
 obtain⟨B,hB,he⟩:=(hr.opd hx).loc_inv
 have hA:=hr.block hB hb
 have key:∀j,j<n→∃y,w.cell? ⟨B.b,B.off+(i*B.z+off)+j,none⟩=some y∧∀v,r[off+j]? = some v→Dat (Imm C φ w) w y v:=by
  intro j hj
  have:off+j<r.length:=by omega
  obtain⟨y,hc,hy⟩:=QaC.cell hA hi (List.getElem?_eq_getElem this)
  exact⟨y,by simpa [Nat.add_assoc] using hc,fun v hv=>by rw [List.getElem?_eq_getElem this]at hv;exact Option.some.inj hv▸hy⟩
 have hc:∀j,j<n→w.cell? ((⟨B.b,B.off+(i*B.z+off),none⟩:Addr).add j)=some ((w.cell? ⟨B.b,B.off+(i*B.z+off)+j,none⟩).getD undef):=by
  intro j hj
  obtain⟨y,h1,_⟩:=key j hj
  simp [Addr.add_lit,h1]
 refine⟨.agg ((List.range n).map fun j=>(w.cell? ⟨B.b,B.off+(i*B.z+off)+j,none⟩).getD undef).toArray,by simp only [execOp,ho,he,Sem.run_bind,QkJ _ hg hs hc,Result.andThen_ok,Sem.run_pure],.agg _ _ ?_ ?_⟩
 ·subst hv;simp;omega
 ·intro j y u hy hu
  subst hv
  simp only [List.getElem?_toArray,List.getElem?_map,Option.map_eq_some_iff,List.getElem?_eq_some_iff,List.length_range,List.getElem_range]at hy
  obtain⟨_,⟨hj,rfl⟩,rfl⟩:=hy
  obtain⟨y,h1,h2⟩:=key j hj
  rw [h1]
  refine .dat (h2 u ?_)
  rw [List.getElem?_take,if_pos hj,List.getElem?_drop]at hu
  exact hu
theorem Stp.load1R {T d:Nat}{x:Operand}{v:V}{cs:List V}(ho:o.op=.load T x)(hd:o.dst=some d)(hn:Nat.ble (d+1) C.n=true)(hx:σ.opd x=some (.ro cs))
  (hg:aggB P T=some false) (hv:cs[0]? = some v):Stp P C o σ (σ.put d v):=by
 refine Stp.same hd hn fun φ a w hr=>?_
 obtain⟨b,off,he,hI,_,c,hc,hd⟩:=(hr.opd hx).ro_inv
 have:=hc 0 ((List.getElem?_eq_some_iff.1 hv).1)
 exact⟨c 0,by simp only [execOp,ho,he,Sem.run_bind,QiJ hg (by simpa using this),Result.andThen_ok,Sem.run_pure],.dat (hd 0 v hv)⟩
theorem Stp.loadAR {T d n:Nat}{x:Operand}{vs cs:List V}(ho:o.op=.load T x)(hd:o.dst=some d)(hn:Nat.ble (d+1) C.n=true)(hx:σ.opd x=some (.ro cs))
  (hg:aggB P T=some true) (hs:Qfy P T=some n) (hle:Nat.ble n cs.length=true) (hv:cs.take n=vs):Stp P C o σ (σ.put d (.agg vs)):=by
 refine Stp.same hd hn fun φ a w hr=>?_
 have hle:=Nat.le_of_ble_eq_true hle
 obtain⟨b,off,he,hI,_,c,hc,hd⟩:=(hr.opd hx).ro_inv
 have hc':∀j,j<n→w.cell? ((⟨b,off,none⟩:Addr).add j)=some (c j):=fun j hj=>by rw [Addr.add_lit];exact hc j (by omega)
 refine⟨.agg ((List.range n).map c).toArray,by simp only [execOp,ho,he,Sem.run_bind,QkJ _ hg hs hc',Result.andThen_ok,Sem.run_pure],.agg _ _ ?_ ?_⟩
 ·subst hv;simp;omega
 ·intro j y u hy hu
  subst hv
  simp only [List.getElem?_toArray,List.getElem?_map,Option.map_eq_some_iff,List.getElem?_eq_some_iff,List.length_range,List.getElem_range]at hy
  obtain⟨_,⟨hj,rfl⟩,rfl⟩:=hy
  refine .dat (hd j u ?_)
  rw [List.getElem?_take,if_pos hj]at hu
  exact hu
theorem Qpv {T n g off:Nat}{w:World}{x:Value}{cur:Array Value}{E:TypeId}(hs:Qfy P T=some n)(hx:x.cells.size=n)(hg:w.heap[g]? = some (.cells cur E (0,0)))
  (hle:off+n≤cur.size) (h1:∀u∈x.cells.toList,u.oneCell'=true):
  (Instr.storeAt T (.pointer (some ⟨g,off,none⟩)) x).run P w=.ok () (w.setRow g (cur.toList.take off++x.cells.toList++cur.toList.drop (off+n)).toArray):=by
 have:=run_storeCells_at P g off E x.cells.toList 0 cur w hg (by simpa [hx] using hle) h1
 simp [Instr.storeAt,Instr.sureAddr,storeVar,Qm6 hs,hx,this]
def QbG (r:List V)(off:Nat)(vs:List V):List V:=r.take off++vs++r.drop (off+vs.length)
theorem Rep.cells_one {φ:Nat→Option Blk}{I:Nat→Prop}{w:World}{x:Value}{v:V}(h:Rep φ I w x v)(hv:v.one=true∨∃cs,v=.agg cs)(h1:v.cells.all V.one=true):
  ∀u∈x.cells.toList,u.oneCell'=true:=by
 intro u hu
 obtain⟨hs,hc⟩:=h.cells hv
 obtain⟨j,hj,rfl⟩:=List.getElem_of_mem hu
 have hj':j<v.cells.length:=by rw [←hs];simpa using hj
 have hj2:j<x.cells.size:=by simpa using hj
 have h3:=hc j x.cells[j] v.cells[j] (Array.getElem?_eq_getElem hj2) (List.getElem?_eq_getElem hj')
 have h4:(v.cells[j]).one=true:=by
  rw [List.all_eq_true]at h1;exact h1 _ (List.getElem_mem _)
 simpa using (h3.oneCell h4).2
theorem Stp.storeL {T b off n:Nat}{x y:Operand}{cs cs':List V}{v:V}(ho:o.op=.store T x y)(hd:o.dst=none)(hx:σ.opd x=some (.loc b 0 off))
  (hb:look σ.hp b=some (.var cs)) (hy:σ.opd y=some v) (h1:v.one=true∨∃cs,v=.agg cs) (hs:Qfy P T=some n) (hl:v.cells.length=n) (hall:v.cells.all V.one=true)
  (hle:Nat.ble (off+n) cs.length=true) (he:QbG cs off v.cells=cs'):Stp P C o σ (σ.set b (.var cs')):=by
 refine Stp.skp fun φ a w hr=>?_
 subst he
 have hle:=Nat.le_of_ble_eq_true hle
 obtain⟨B,hB,he⟩:=(hr.opd hx).loc_inv
 obtain⟨xs,E,e1,e2,e0,e3⟩:=hr.block hB hb
 rw [e0]at he
 have hv:=hr.opd hy
 obtain⟨hcs,hc⟩:=hv.cells h1
 have hsz:(a.eval y).cells.size=n:=by rw [hcs,hl]
 have hrun:=Qpv (off:=off) hs hsz e1 (by omega) (hv.cells_one h1 hall)
 refine⟨w.setRow B.b (xs.toList.take off++(a.eval y).cells.toList++xs.toList.drop (off+n)).toArray,φ,?_,?_⟩
 ·simp only [execOp,ho,he,Sem.run_bind,Nat.zero_mul,Nat.zero_add,hrun,Result.andThen_ok,Sem.run_pure]
 ·rw [hd]
  have hl1:(xs.toList.take off++(a.eval y).cells.toList++xs.toList.drop (off+n)).length=xs.size:=by simp;omega
  refine hr.write hB rfl rfl rfl (by simp) (fun k hk=>setRow_other w B.b k _ hk) ⟨_,E,setRow_heap w B.b xs _ E _ e1,?_,e0,?_⟩
  ·simp only [List.size_toArray,hl1];simp [QbG,hl];omega
  ·have hI:∀k,Imm C φ w k→Imm C φ (w.setRow B.b (xs.toList.take off++(a.eval y).cells.toList++xs.toList.drop (off+n)).toArray) k∧
     (w.setRow B.b (xs.toList.take off++(a.eval y).cells.toList++xs.toList.drop (off+n)).toArray).heap[k]? = w.heap[k]?:=
    fun k hk=>⟨⟨by simpa using hk.1,hk.2⟩,setRow_other w B.b k _ fun e=>hk.2.2 b B hB (.inl e)⟩
   intro j y' u hy' hu
   refine Rep.mono (fun _ _ h=>h) hI ?_
   simp only [List.getElem?_toArray,QbG]at hy' hu
   by_cases hj:j<off
   ·rw [List.append_assoc,List.getElem?_append_left (by simp;omega),List.getElem?_take,if_pos hj]at hy' hu
    exact e3 j y' u (by simpa using hy') hu
   ·by_cases hj2:j<off+n
    ·rw [List.getElem?_append_left (by simp;omega),List.getElem?_append_right (by simp;omega)]at hy' hu
     have el:off-min off cs.length=0:=by omega
     have el2:off-min off xs.size=0:=by omega
     refine hc (j-off) y' u ?_ ?_
     ·rw [←hy'];simp;congr 1;omega
     ·rw [←hu];simp;congr 1;omega
    ·rw [List.getElem?_append_right (by simp;omega)]at hy' hu
     refine e3 j y' u ?_ ?_
     ·rw [←hy'];simp;congr 1;omega
     ·rw [←hu];simp;congr 1;omega
end
end Go.Vm
