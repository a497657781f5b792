/- A part of the proof; what it holds is told at each theorem. -/
import Derived.Test.YtpijolohkdchcaaGreatDoorXVmF
set_option linter.unusedVariables false
set_option linter.unusedSimpArgs false
set_option linter.unusedSectionVars false
set_option linter.deprecated false
namespace Go.Vm
open Go Go.RowKit
def V.freeN : Nat→Nat→V→Bool
 | _,q,.own o _=>!(Nat.beq o q)
 | _,q,.loc o _ _=>!(Nat.beq o q)
 | _,q,.map o=>!(Nat.beq o q)
 | 0,_,.agg cs=>cs.all V.plain
 | n+1,q,.agg cs=>cs.all (V.freeN n q)
 | 0,_,.tup _=>false
 | n+1,q,.tup cs=>cs.all (V.freeN n q)
 | 0,_,.clo _ _ _=>false
 | n+1,q,.clo _ fs cs=>fs.all (V.freeN n q)&&cs.all (V.freeN n q)
 | 0,_,.ifc _ _=>false
 | n+1,q,.ifc _ x=>V.freeN n q x
 | _,_,_=>true
def V.freeC (b:Nat)(v:V):Bool:=V.freeN 4 b v
def V.free (b:Nat)(v:V):Bool:=V.freeN 5 b v
def V.kill (b:Nat)(v:V):V:=bif v.free b then v else .J
def V.killC (b:Nat)(v:V):V:=bif v.freeC b then v else .J
theorem QgO {a b:Nat}(h:(!(Nat.beq a b))=true):a≠b:=by
 intro e;subst e;simp at h
section
variable {φ φ':Nat→Option Blk}{I I':Nat→Prop}{w w':World}
theorem Rep.freeN {b:Nat}(hφ:∀o B,o≠b→φ o=some B→φ' o=some B)(hI:∀k,I k→I' k∧w'.heap[k]? = w.heap[k]?):∀(n:Nat) {x:Value} {v:V},Rep φ I w x v→V.freeN n b v=true→Rep φ' I' w' x v:=by
 have leaf:∀{x:Value} {v:V},Rep φ I w x v→V.freeN 0 b v=true→Rep φ' I' w' x v:=by
  intro x v h hv
  cases h with
  | dat h=>exact .dat (h.mono hI)
  | own0 o=>exact .own0 o
  | own o n B hB hn=>exact .own o n B (hφ o B (QgO hv) hB) hn
  | loc o i d B hB=>exact .loc o i d B (hφ o B (QgO hv) hB)
  | map o B hB=>exact .map o B (hφ o B (QgO hv) hB)
  | agg xs cs hs hr=>exact .dat ((Rep.aggPlain hs hr hv).mono hI)
  | _=>simp [V.freeN]at hv
 intro n
 induction n with
 | zero=>exact leaf
 | succ n ih=>
  intro x v h hv
  cases v with
  | agg cs=>
   obtain⟨xs,rfl,hs,hr⟩:=h.agg_inv
   rw [V.freeN,List.all_eq_true]at hv
   exact .agg xs cs hs fun j x v hx hv'=>ih (hr j x v hx hv') (hv v (List.mem_of_getElem? hv'))
  | tup cs=>
   obtain⟨xs,rfl,hs,hr⟩:=h.tup_inv
   rw [V.freeN,List.all_eq_true]at hv
   exact .tup xs cs hs fun j x v hx hv'=>ih (hr j x v hx hv') (hv v (List.mem_of_getElem? hv'))
  | clo fn vs us=>
   obtain⟨xs,ys,rfl,h1,h2,h3,h4⟩:=h.clo_inv
   rw [V.freeN,Bool.and_eq_true,List.all_eq_true,List.all_eq_true]at hv
   exact .clo fn xs ys vs us h1 h2 (fun j x v hx hv'=>ih (h3 j x v hx hv') (hv.1 v (List.mem_of_getElem? hv'))) fun j x v hx hv'=>ih (h4 j x v hx hv') (hv.2 v (List.mem_of_getElem? hv'))
  | ifc t u=>
   obtain⟨y,rfl,hr⟩:=h.ifc_inv
   rw [V.freeN]at hv
   exact .ifc t y u (ih hr hv)
  | own o k=>exact leaf h (by rw [V.freeN]at hv ⊢;exact hv)
  | loc o i d=>exact leaf h (by rw [V.freeN]at hv ⊢;exact hv)
  | map o=>exact leaf h (by rw [V.freeN]at hv ⊢;exact hv)
  | _=>exact leaf h rfl
theorem Rep.freeC {b:Nat}(hφ:∀o B,o≠b→φ o=some B→φ' o=some B)(hI:∀k,I k→I' k∧w'.heap[k]? = w.heap[k]?){x:Value}{v:V}(h:Rep φ I w x v)(hv:v.freeC b=true):
  Rep φ' I' w' x v:=Rep.freeN hφ hI 4 h hv
theorem Rep.freeV {b:Nat}(hφ:∀o B,o≠b→φ o=some B→φ' o=some B)(hI:∀k,I k→I' k∧w'.heap[k]? = w.heap[k]?){x:Value}{v:V}(h:Rep φ I w x v)(hv:v.free b=true):
  Rep φ' I' w' x v:=Rep.freeN hφ hI 5 h hv
theorem Rep.kill {b:Nat}(hφ:∀o B,o≠b→φ o=some B→φ' o=some B)(hI:∀k,I k→I' k∧w'.heap[k]? = w.heap[k]?){x:Value}{v:V}(h:Rep φ I w x v):Rep φ' I' w' x (v.kill b):=by
 unfold V.kill
 cases hv:v.free b with
 | true=>exact h.freeV hφ hI hv
 | false=>exact .dat (.J x)
theorem Rep.killC {b:Nat}(hφ:∀o B,o≠b→φ o=some B→φ' o=some B)(hI:∀k,I k→I' k∧w'.heap[k]? = w.heap[k]?){x:Value}{v:V}(h:Rep φ I w x v):Rep φ' I' w' x (v.killC b):=by
 unfold V.killC
 cases hv:v.freeC b with
 | true=>exact h.freeC hφ hI hv
 | false=>exact .dat (.J x)
end
def Ob.kill (b:Nat):Ob→Ob
 | .var cs=>.var (cs.map (V.killC b))
 | .lp l K cs q=>.lp l K (cs.map (V.killC b)) q
 | ob=>ob
def Qg8 (b:Nat):List (Nat×V)→List (Nat×V)
 | []=>[]
 | (t,v)::r=>(t,v.kill b)::Qg8 b r
def Qd7 (b:Nat):List (Nat×Ob)→List (Nat×Ob)
 | []=>[]
 | (o,ob)::r=>bif Nat.beq o b then Qd7 b r else(o,ob.kill b)::Qd7 b r
def St.kill (σ:St)(b:Nat):St:=⟨Qg8 b σ.fr,Qd7 b σ.hp⟩
theorem QkK {b:Nat}:∀(l:List (Nat×V)) (t:Nat) (v:V),look (Qg8 b l) t=some v→∃v',look l t=some v'∧v=v'.kill b:=by
 intro l
 induction l with
 | nil=>intro t v h;cases h
 | cons p l ih=>
  intro t v h
  obtain⟨k,u⟩:=p
  by_cases e:k=t
  ·subst e;rw [Qg8,Qq]at h;cases h;exact⟨u,Qq _ _ _,rfl⟩
  ·rw [Qg8,Qn _ _ e]at h
   rw [Qn _ _ e];exact ih t v h
theorem Qce {b:Nat}:∀(l:List (Nat×Ob)) (t:Nat) (ob:Ob),look (Qd7 b l) t=some ob→t≠b∧∃ob',look l t=some ob'∧ob=ob'.kill b:=by
 intro l
 induction l with
 | nil=>intro t v h;cases h
 | cons p l ih=>
  intro t ob h
  obtain⟨k,u⟩:=p
  rw [Qd7]at h
  cases hb:Nat.beq k b with
  | true=>
   rw [hb]at h
   have hk:=Nat.eq_of_beq_eq_true hb
   obtain⟨h1,h2⟩:=ih t ob h
   exact⟨h1,by rw [Qn _ _ (by omega)];exact h2⟩
  | false=>
   rw [hb]at h
   by_cases e:k=t
   ·subst e
    simp only [cond_false]at h
    rw [Qq]at h;cases h
    exact⟨QgO (by rw [hb];rfl),u,Qq _ _ _,rfl⟩
   ·simp only [cond_false]at h
    rw [Qn _ _ e]at h
    obtain⟨h1,h2⟩:=ih t ob h
    exact⟨h1,by rw [Qn _ _ e];exact h2⟩
theorem QeI {b:Nat}:∀(l:List (Nat×Ob)) (t:Nat) (ob:Ob),t≠b→look l t=some ob→look (Qd7 b l) t=some (ob.kill b):=by
 intro l
 induction l with
 | nil=>intro t v _ h;cases h
 | cons p l ih=>
  intro t ob hne h
  obtain⟨k,u⟩:=p
  rw [Qd7]
  by_cases e:k=t
  ·subst e
   rw [Qq]at h;cases h
   cases hb:Nat.beq k b with
   | true=>exact absurd (Nat.eq_of_beq_eq_true hb) hne
   | false=>simp only [cond_false];exact Qq _ _ _
  ·rw [Qn _ _ e]at h
   cases hb:Nat.beq k b with
   | true=>simp only [cond_true];exact ih t ob hne h
   | false=>simp only [cond_false];rw [Qn _ _ e];exact ih t ob hne h
def del (φ:Nat→Option Blk)(b:Nat):Nat→Option Blk:=fun k=>if k=b then none else φ k
theorem QrX (φ:Nat→Option Blk)(b:Nat):del φ b b=none:=by simp [del]
theorem QdA {φ:Nat→Option Blk}{b k:Nat}(h:k≠b):del φ b k=φ k:=by simp [del,h]
theorem Qbj {φ:Nat→Option Blk}{b k:Nat}{B:Blk}(h:del φ b k=some B):k≠b∧φ k=some B:=by
 by_cases e:k=b
 ·subst e;rw [QrX]at h;cases h
 ·rw [QdA e]at h;exact⟨e,h⟩
theorem Qbi.kill {φ φ':Nat→Option Blk}{I I':Nat→Prop}{w w':World}{b:Nat}(hφ:∀o B,o≠b→φ o=some B→φ' o=some B)(h:∀k,I k→I' k∧w'.heap[k]? = w.heap[k]?)
  {B:Blk} (hB:∀k,B.has k→w'.heap[k]? = w.heap[k]?) {ob:Ob} (d:Qbi φ I w B ob):Qbi φ' I' w' B (ob.kill b):=by
 cases ob with
 | var vs=>
  obtain⟨cs,E,h1,h2,h0,h3⟩:=d
  refine⟨cs,E,(hB _ B.self).trans h1,by simpa using h2,h0,fun j x v hx hv=>?_⟩
  rw [List.getElem?_map]at hv
  obtain⟨u,hu,rfl⟩:=Option.map_eq_some_iff.1 hv
  exact(h3 j x u hx hu).killC hφ h
 | lp l K vs q=>
  obtain⟨tmps,D,rfl,h1,h2,h3,h4⟩:=d
  refine⟨tmps,D,rfl,h1,(hB _ B.self).trans h2,by simpa using h3,fun j x v hx hv=>?_⟩
  rw [List.getElem?_map]at hv
  obtain⟨u,hu,rfl⟩:=Option.map_eq_some_iff.1 hv
  exact(h4 j x u hx hu).killC hφ h
 | arr z rs=>exact QaC.mono h (hB _ B.self) d
 | map l=>exact Qdy.mono h (hB _ B.self) d
 | grp z l lk=>exact Qdz.mono h hB d
 | mapX bm clock L l=>exact Qfl.mono h (hB _ B.self) d
 | itr bm since seen cur=>exact Qlv.mono (hB _ B.self) d
 | itr0=>obtain⟨s,c,h1⟩:=d;exact⟨s,c,(hB _ B.self).trans h1.1,h1.2⟩
section
variable {C:Ctx}{φ:Nat→Option Blk}{σ:St}{a:Act}{w:World}
theorem Imm.of_del {k b:Nat}(h:Imm C φ w k):Imm C (del φ b) w k:=⟨h.1,h.2.1,fun o B hB=>h.2.2 o B (Qbj hB).2⟩
theorem RR.kill (h:RR C φ σ a w)(b:Nat):RR C (del φ b) (σ.kill b) a w:=by
 have hI:∀k,Imm C φ w k→Imm C (del φ b) w k∧w.heap[k]? = w.heap[k]? := fun k hk=>⟨hk.of_del,rfl⟩
 have hφ:∀o B,o≠b→φ o=some B→del φ b o=some B:=fun o B ho hB=>by rw [QdA ho];exact hB
 refine⟨h.os,h.tape,h.output,h.size,h.kept,fun o o' B B' k h1 h2=>h.inj o o' B B' k (Qbj h1).2 (Qbj h2).2,?_,fun o B k hB=>h.lt o B k (Qbj hB).2,fun o B k hB=>h.new o B k (Qbj hB).2,⟨fun o B h1 hB=>h.stay.1 o B h1 (Qbj hB).2,fun o ob B h1 ho hB=>by obtain⟨hne,ob',h2,_⟩:=Qce _ _ _ ho;rw [QdA hne];exact h.stay.2 o ob' B h1 h2 hB⟩,h.tmps,h.defers.mono hI,?_,?_⟩
 ·intro o B hB
  obtain⟨h1,h2⟩:=Qbj hB
  obtain⟨ob,hob⟩:=h.dom o B h2
  exact⟨_,QeI _ _ _ h1 hob⟩
 ·intro t v hv
  obtain⟨v',hv',rfl⟩:=QkK _ _ _ hv
  obtain⟨x,hx,hr⟩:=h.frame t v' hv'
  exact⟨x,hx,hr.kill hφ hI⟩
 ·intro o ob hob
  obtain⟨hne,ob',hob',rfl⟩:=Qce _ _ _ hob
  rcases h.heap o ob' hob' with⟨B,hB,hr⟩|⟨h1,z,rfl⟩
  ·exact .inl ⟨B,hφ o B hne hB,hr.kill hφ hI fun _ _=>rfl⟩
  ·exact .inr ⟨by rw [QdA hne];exact h1,z,rfl⟩
theorem RR.say (h:RR C φ σ a w){t:Nat}{x:Value}{v:V}(hx:a.tmps[t]? = some x)(hr:Rep φ (Imm C φ w) w x v):RR C φ (σ.put t v) a w:=by
 refine⟨h.os,h.tape,h.output,h.size,h.kept,h.inj,h.dom,h.lt,h.new,h.stay,h.tmps,h.defers,?_,h.heap⟩
 intro t' v' hv'
 by_cases e:t=t'
 ·subst e;rw [St.put,Qq]at hv';cases hv';exact⟨x,hx,hr⟩
 ·rw [St.put,Qn _ _ e]at hv';exact h.frame t' v' hv'
theorem RR.setNil (h:RR C φ σ a w){b z:Nat}(hlt:b<200000)(hb:look σ.hp b=none):RR C φ (σ.set b (.arr z [])) a w:=by
 have hn:=h.none_of_look hb
 refine⟨h.os,h.tape,h.output,h.size,h.kept,h.inj,?_,h.lt,h.new,⟨h.stay.1,fun o ob B hge ho hB=>h.stay.2 o ob B hge (by rwa [σ.look_set_other _ (by omega)]at ho) hB⟩,h.tmps,h.defers,h.frame,?_⟩
 ·intro o B hB
  by_cases e:o=b
  ·subst e;exact⟨_,σ.look_set_same _ _⟩
  ·obtain⟨ob,h1⟩:=h.dom o B hB;exact⟨ob,by rw [σ.look_set_other _ (Ne.symm e)];exact h1⟩
 ·intro o ob hob
  by_cases e:o=b
  ·subst e;rw [σ.look_set_same]at hob;cases hob;exact .inr ⟨hn,z,rfl⟩
  ·rw [σ.look_set_other _ (Ne.symm e)]at hob;exact h.heap o ob hob
end
section
variable {C:Ctx}{σ:St}{a:Act}{w:World}
theorem R.kill (h:R C σ a w)(b:Nat):R C (σ.kill b) a w:=let ⟨φ,hr⟩:=h;⟨_,hr.kill b⟩
theorem R.adopt (h:R C σ a w){t b z:Nat}(hlt:b<200000)(ht:look σ.fr t=some (.lit (.slice none 0 0)))(hb:look σ.hp b=none):R C ((σ.set b (.arr z [])).put t (.own b 0)) a w:=by
 obtain⟨φ,hr⟩:=h
 obtain⟨x,hx,hrep⟩:=hr.frame t _ ht
 have:=hrep.lit_inv
 subst this
 exact⟨φ,(hr.setNil hlt hb).say hx (.own0 b)⟩
theorem R.freeze (h:R C σ a w){t b n z:Nat}{rs us:List (List V)}(hp:Nat.ble 100000 b=false)(ht:look σ.fr t=some (.own b n))(hb:look σ.hp b=some (.arr z rs))(hle:n≤rs.length)(hu:rs.take n=us):
  R C ((σ.kill b).put t (.sl z us)) a w:=by
 obtain⟨φ,hr⟩:=h
 subst hu
 obtain⟨x,hx,hrep⟩:=hr.frame t _ ht
 have hk:=hr.kill b
 refine⟨_,hk.say hx (.dat ?_)⟩
 rcases hrep.own_inv with⟨rfl,rfl⟩|⟨B,hB,hcap,rfl⟩
 ·simp only [List.take_zero];exact .sl0 _ _ _
 ·obtain⟨rfl,hrl,hok,cs,E,h1,h2,h3⟩:=hr.block hB hb
  have hIb:Imm C (del φ b) w B.b:=by
   refine⟨(hr.lt b B _ hB B.self).1,fun hlt=>?_,fun o B' hB' e=>?_⟩
   ·have hb':b<100000:=by
     rcases Nat.lt_or_ge b 100000 with h | h
     ·exact h
     ·rw [Nat.ble_eq_true_of_le h]at hp;cases hp
    have:=hr.new b B _ hB B.self hb';omega
   ·obtain⟨h4,h5⟩:=Qbj hB'
    exact h4 (hr.inj o b B' B _ h5 hB e B.self)
  refine .sl B.b B.off n B.cap B.z _ (fun j=>cs.getD (B.off+j) undef) hIb (by simp;omega) hcap (fun r hr'=>hok r (List.mem_of_mem_take hr')) (fun j hj=>?_) (fun i r hi j v hj=>?_)
  ·have hle2:n*B.z≤B.cap*B.z:=Nat.mul_le_mul_right _ hcap
   have:B.off+j<cs.size:=by omega
   simp [World.cell?,h1,Array.getD,this]
  ·have hi':rs[i]? = some r:=by
    rw [List.getElem?_take]at hi
    by_cases hin:i<n
    ·rwa [if_pos hin]at hi
    ·rw [if_neg hin]at hi;simp at hi
   obtain⟨y,hy,hd⟩:=h3 i r hi' j v hj
   have:cs.getD (B.off+(i*B.z+j)) undef=y:=by simp [Array.getD_eq_getD_getElem?,hy]
   rw [this]
   exact hd.mono fun k hk=>⟨hk.of_del,rfl⟩
def QhD (fr:List (Nat×V)):List (Nat×V)→Prop
 | []=>True
 | (t,v)::r=>look fr t=some v∧QhD fr r
theorem QhD.look {fr:List (Nat×V)}:∀{l:List (Nat×V)},QhD fr l→∀t v,Vm.look l t=some v→Vm.look fr t=some v:=by
 intro l
 induction l with
 | nil=>intro _ t v h;cases h
 | cons p l ih=>
  intro ⟨h1,h2⟩ t v h
  obtain⟨k,u⟩:=p
  by_cases e:k=t
  ·subst e;rw [Qq]at h;cases h;exact h1
  ·rw [Qn _ _ e]at h;exact ih h2 t v h
theorem R.sub (h:R C σ a w){fr:List (Nat×V)}(hf:QhD σ.fr fr):R C ⟨fr,σ.hp⟩ a w:=let ⟨φ,hr⟩:=h;⟨φ,hr.le hf.look⟩
end
end Go.Vm
