/- A part of the proof; what it holds is told at each theorem. -/
import Derived.Test.YtpijolohkdchcaaGreatDoorXVmG
set_option linter.unusedVariables false
set_option linter.unusedSimpArgs false
set_option linter.unusedSectionVars false
set_option linter.deprecated false
namespace Go.Vm
open Go Go.RowKit
def memB : List Nat→Nat→Bool
 | [],_=>false
 | k::r,t=>Nat.beq k t||memB r t
def V.inC (ks:List Nat):V→Bool
 | .own o _=>memB ks o
 | .loc o _ _=>memB ks o
 | .map o=>memB ks o
 | .agg cs=>cs.all V.plain
 | .tup _=>false
 | .clo _ _ _=>false
 | .ifc _ x=>x.inC ks
 | _=>true
def V.inK (ks:List Nat):V→Bool
 | .agg cs=>cs.all (V.inC ks)
 | .clo _ fs cs=>fs.all (V.inC ks)&&cs.all (V.inC ks)
 | v=>v.inC ks
def Ob.inK (ks:List Nat):Ob→Bool
 | .var cs=>cs.all (V.inK ks)
 | .lp _ _ cs _=>cs.all (V.inK ks)
 | _=>true
theorem Rep.inC {φ φ':Nat→Option Blk}{I I':Nat→Prop}{w:World}{ks:List Nat}(hφ:∀o B,memB ks o=true→φ o=some B→φ' o=some B)(hI:∀k,I k→I' k){x:Value}{v:V}
  (h:Rep φ I w x v) (hv:v.inC ks=true):Rep φ' I' w x v:=by
 induction h with
 | dat h=>exact .dat (h.mono fun k hk=>⟨hI k hk,rfl⟩)
 | own0 o=>exact .own0 o
 | own o n B hB hn=>exact .own o n B (hφ o B hv hB) hn
 | loc o i d B hB=>exact .loc o i d B (hφ o B hv hB)
 | map o B hB=>exact .map o B (hφ o B hv hB)
 | ifc t x v _ ih=>exact .ifc t x v (ih hv)
 | agg xs cs hs hr _=>exact .dat ((Rep.aggPlain hs hr hv).mono fun k hk=>⟨hI k hk,rfl⟩)
 | _=>simp [V.inC]at hv
theorem Rep.inK {φ φ':Nat→Option Blk}{I I':Nat→Prop}{w:World}{ks:List Nat}(hφ:∀o B,memB ks o=true→φ o=some B→φ' o=some B)(hI:∀k,I k→I' k){x:Value}{v:V}
  (h:Rep φ I w x v) (hv:v.inK ks=true):Rep φ' I' w x v:=by
 cases v with
 | agg cs=>
  obtain⟨xs,rfl,hs,hr⟩:=h.agg_inv
  rw [V.inK,List.all_eq_true]at hv
  exact .agg xs cs hs fun j x v hx hv'=>(hr j x v hx hv').inC hφ hI (hv v (List.mem_of_getElem? hv'))
 | clo fn vs us=>
  obtain⟨xs,ys,rfl,h1,h2,h3,h4⟩:=h.clo_inv
  rw [V.inK,Bool.and_eq_true,List.all_eq_true,List.all_eq_true]at hv
  exact .clo fn xs ys vs us h1 h2 (fun j x v hx hv'=>(h3 j x v hx hv').inC hφ hI (hv.1 v (List.mem_of_getElem? hv'))) fun j x v hx hv'=>(h4 j x v hx hv').inC hφ hI (hv.2 v (List.mem_of_getElem? hv'))
 | _=>exact h.inC hφ hI hv
def QhE (hp:List (Nat×Ob)):List (Nat×Ob)→Prop
 | []=>True
 | (o,ob)::r=>look hp o=some ob∧QhE hp r
theorem QhE.look {hp:List (Nat×Ob)}:∀{l:List (Nat×Ob)},QhE hp l→∀t v,Vm.look l t=some v→Vm.look hp t=some v:=by
 intro l
 induction l with
 | nil=>intro _ t v h;cases h
 | cons p l ih=>
  intro ⟨h1,h2⟩ t v h
  obtain⟨k,u⟩:=p
  by_cases e:k=t
  ·subst e;rw [Qq]at h;cases h;exact h1
  ·rw [Qn _ _ e]at h;exact ih h2 t v h
def keys {α:Type}:List (Nat×α)→List Nat
 | []=>[]
 | (k,_)::r=>k::keys r
theorem Qlz {α:Type}:∀{l:List (Nat×α)} {t:Nat} {v:α},look l t=some v→memB (keys l) t=true:=by
 intro l
 induction l with
 | nil=>intro t v h;cases h
 | cons p l ih=>
  intro t v h
  obtain⟨k,u⟩:=p
  by_cases e:k=t
  ·subst e;simp [keys,memB]
  ·rw [Qn _ _ e]at h;simp [keys,memB,ih h]
theorem Qsy {α:Type}:∀{l:List (Nat×α)} {t:Nat},memB (keys l) t=true→∃v,look l t=some v:=by
 intro l
 induction l with
 | nil=>intro t h;cases h
 | cons p l ih=>
  intro t h
  obtain⟨k,u⟩:=p
  by_cases e:k=t
  ·subst e;exact⟨u,Qq _ _ _⟩
  ·rw [Qn _ _ e]
   simp only [keys,memB,Bool.or_eq_true]at h
   rcases h with h | h
   ·exact absurd (Nat.eq_of_beq_eq_true h) e
   ·exact ih h
def St.closed (σ:St):Bool:=σ.fr.all (fun p=>p.2.inK (keys σ.hp))&&σ.hp.all (fun p=>p.2.inK (keys σ.hp))
theorem QaH {α:Type}:∀{l:List (Nat×α)} {t:Nat} {v:α},look l t=some v→(t,v)∈l:=by
 intro l
 induction l with
 | nil=>intro t v h;cases h
 | cons p l ih=>
  intro t v h
  obtain⟨k,u⟩:=p
  by_cases e:k=t
  ·subst e;rw [Qq]at h;cases h;exact List.mem_cons_self
  ·rw [Qn _ _ e]at h;exact List.mem_cons_of_mem _ (ih h)
section
variable {C:Ctx}{σ:St}{a:Act}{w:World}
theorem R.to (h:R C σ a w){fr:List (Nat×V)}{hp:List (Nat×Ob)}(hf:QhD σ.fr fr)(hh:QhE σ.hp hp)(hk:St.closed ⟨fr,hp⟩=true):R C ⟨fr,hp⟩ a w:=by
 obtain⟨φ,hr⟩:=h
 rw [St.closed,Bool.and_eq_true,List.all_eq_true,List.all_eq_true]at hk
 let φ':Nat→Option Blk:=fun o=>if memB (keys hp) o=true then φ o else none
 have hs:∀o B,φ' o=some B→memB (keys hp) o=true∧φ o=some B:=by
  intro o B hB
  simp only [φ']at hB
  split at hB
  ·exact⟨by assumption,hB⟩
  ·cases hB
 have hφ:∀o B,memB (keys hp) o=true→φ o=some B→φ' o=some B:=fun o B h1 h2=>by simp only [φ',h1,if_true];exact h2
 have hI:∀k,Imm C φ w k→Imm C φ' w k:=fun k hk=>⟨hk.1,hk.2.1,fun o B hB=>hk.2.2 o B (hs o B hB).2⟩
 refine⟨φ',hr.os,hr.tape,hr.output,hr.size,hr.kept,fun o o' B B' k h1 h2=>hr.inj o o' B B' k (hs _ _ h1).2 (hs _ _ h2).2,fun o B hB=>Qsy (hs o B hB).1,
  fun o B k hB=>hr.lt o B k (hs o B hB).2,fun o B k hB=>hr.new o B k (hs o B hB).2,⟨fun o B h1 hB=>hr.stay.1 o B h1 (hs o B hB).2,fun o ob B h1 ho hB=>hφ o B (Qlz ho) (hr.stay.2 o ob B h1 (hh.look o ob ho) hB)⟩,hr.tmps,hr.defers.mono fun k hk=>⟨hI k hk,rfl⟩,?_,?_⟩
 ·intro t v hv
  obtain⟨x,hx,hrep⟩:=hr.frame t v (hf.look t v hv)
  exact⟨x,hx,hrep.inK hφ hI (hk.1 (t,v) (QaH hv))⟩
 ·intro o ob hob
  have hm:=Qlz hob
  rcases hr.heap o ob (hh.look o ob hob)with⟨B,hB,hrep⟩|⟨h1,h2⟩
  ·refine .inl ⟨B,hφ o B hm hB,?_⟩
   have hok:=hk.2 (o,ob) (QaH hob)
   cases ob with
   | var cs=>
    obtain⟨xs,E,h1,h2,h0,h3⟩:=hrep
    rw [Ob.inK,List.all_eq_true]at hok
    exact⟨xs,E,h1,h2,h0,fun j x v hx hv=>(h3 j x v hx hv).inK hφ hI (hok v (List.mem_of_getElem? hv))⟩
   | lp l K vs q=>
    obtain⟨tmps,D,e1,h1,h2,h3,h4⟩:=hrep
    rw [Ob.inK,List.all_eq_true]at hok
    exact⟨tmps,D,e1,h1,h2,h3,fun j x v hx hv=>(h4 j x v hx hv).inK hφ hI (hok v (List.mem_of_getElem? hv))⟩
   | arr z rs=>exact QaC.mono (fun k hk=>⟨hI k hk,rfl⟩) rfl hrep
   | map l=>exact Qdy.mono (fun k hk=>⟨hI k hk,rfl⟩) rfl hrep
   | grp z l lk=>exact Qdz.mono (fun k hk=>⟨hI k hk,rfl⟩) (fun _ _=>rfl) hrep
   | mapX bm clock L l=>exact Qfl.mono (fun k hk=>⟨hI k hk,rfl⟩) rfl hrep
   | itr bm since seen cur=>exact hrep
   | itr0=>exact hrep
  ·exact .inr ⟨by simp only [φ',hm,if_true];exact h1,h2⟩
end
def Qqc (φ:Nat→Option Blk)(I:Nat→Prop)(w:World)(x:Value)(z:Nat)(us:List (List V)):Prop:=
 (∃a cap,x=.slice a 0 cap∧us=[])∨
 ∃(p:Addr) (cap:Nat) (news:List Value),x=.slice (some p) us.length cap∧news.length=us.length*z∧(∀(j:Nat) u,news[j]? = some u→w.cell? (p.add j)=some u)∧(∀u∈news,u.oneCell'=true)∧
  (∀r∈us,QjA z r)∧∀(i:Nat) r,us[i]? = some r→∀(j:Nat) v,r[j]? = some v→∃u,news[i*z+j]? = some u∧Dat I w u v
theorem Rep.source_sl {φ:Nat→Option Blk}{I:Nat→Prop}{w:World}{x:Value}{z:Nat}{us:List (List V)}(h:Rep φ I w x (.sl z us)):Qqc φ I w x z us:=by
 rcases h.sl_inv with⟨a,cap,rfl,rfl⟩|⟨b,off,cap,rfl,hI,hcap,hok,c,hc,hd⟩
 ·exact .inl ⟨a,cap,rfl,rfl⟩
 ·refine .inr ⟨⟨b,off,none⟩,cap,(List.range (us.length*z)).map c,rfl,by simp,fun j u hu=>?_,fun u hu=>?_,hok,fun i r hi j v hj=>?_⟩
  ·simp only [List.getElem?_map,Option.map_eq_some_iff,List.getElem?_eq_some_iff,List.length_range,List.getElem_range]at hu
   obtain⟨_,⟨hj,rfl⟩,rfl⟩:=hu
   rw [Addr.add_lit];exact hc j hj
  ·simp only [List.mem_map,List.mem_range]at hu
   obtain⟨k,hk,rfl⟩:=hu
   have hz:0<z:=by rcases Nat.eq_zero_or_pos z with h | h;(· subst h;simp at hk);exact h
   have hi:k / z<us.length:=(Nat.div_lt_iff_lt_mul hz).2 hk
   have hrow:=hok us[k / z] (List.getElem_mem _)
   have hj:k % z<(us[k / z]).length:=by rw [hrow.1];exact Nat.mod_lt _ hz
   have hD:=hd (k / z) _ (List.getElem?_eq_getElem hi) (k % z) _ (List.getElem?_eq_getElem hj)
   rw [Nat.mul_comm,Nat.div_add_mod]at hD
   exact((Rep.dat (φ:=φ) hD).oneCell (hrow.2 _ (List.getElem_mem _))).2
  ·have hin:i<us.length:=(List.getElem?_eq_some_iff.1 hi).1
   have hjz:j<z:=by have:=(List.getElem?_eq_some_iff.1 hj).1;rwa [(hok r (List.mem_of_getElem? hi)).1]at this
   have hlt:i*z+j<us.length*z:=by
    have:(i+1)*z≤us.length*z:=Nat.mul_le_mul_right _ hin
    rw [Nat.add_mul]at this;omega
   exact⟨c (i*z+j),by simp [hlt],hd i r hi j v hj⟩
theorem Rep.source_own {C:Ctx}{φ:Nat→Option Blk}{σ:St}{a:Act}{w:World}(hr:RR C φ σ a w){x:Value}{b n z:Nat}{rs:List (List V)}(h:Rep φ (Imm C φ w) w x (.own b n))
  (hb:look σ.hp b=some (.arr z rs)) (hn:n≤rs.length):Qqc φ (Imm C φ w) w x z (rs.take n):=by
 rcases h.own_inv with⟨rfl,rfl⟩|⟨B,hB,hcap,rfl⟩
 ·exact .inl ⟨none,0,rfl,by simp⟩
 ·obtain⟨rfl,hrl,hok,cs,E,h1,h2,h3⟩:=hr.block hB hb
  have hle2:B.off+n*B.z≤cs.size:=Nat.le_trans (Nat.add_le_add_left (Nat.mul_le_mul_right _ hcap) _) h2
  have hlen:(rs.take n).length=n:=by simp;omega
  have get:∀(i:Nat) r,(rs.take n)[i]? = some r→rs[i]? = some r∧i<n:=by
   intro i r hi
   rw [List.getElem?_take]at hi
   by_cases h:i<n
   ·rw [if_pos h]at hi;exact⟨hi,h⟩
   ·rw [if_neg h]at hi;simp at hi
  refine .inr ⟨⟨B.b,B.off,none⟩,B.cap,(cs.toList.drop B.off).take (n*B.z),by rw [hlen],by simp [hlen];omega,fun j u hu=>?_,fun u hu=>?_,fun r hr'=>hok r (List.mem_of_mem_take hr'),fun i r hi j v hj=>?_⟩
  ·rw [List.getElem?_take]at hu
   by_cases h:j<n*B.z
   ·rw [if_pos h]at hu
    rw [List.getElem?_drop]at hu
    simp [Addr.add_lit,World.cell?,h1];simpa using hu
   ·rw [if_neg h]at hu;simp at hu
  ·obtain⟨k,hk⟩:=List.getElem?_of_mem hu
   rw [List.getElem?_take]at hk
   by_cases h:k<n*B.z
   ·rw [if_pos h]at hk
    have hz:0<B.z:=by rcases Nat.eq_zero_or_pos B.z with h' | h';(· rw [h']at h;omega);exact h'
    have hi:k / B.z<rs.length:=Nat.lt_of_lt_of_le ((Nat.div_lt_iff_lt_mul hz).2 h) hn
    have hrow:=hok rs[k / B.z] (List.getElem_mem _)
    have hj:k % B.z<(rs[k / B.z]).length:=by rw [hrow.1];exact Nat.mod_lt _ hz
    obtain⟨y,hy,hD⟩:=h3 (k / B.z) _ (List.getElem?_eq_getElem hi) (k % B.z) _ (List.getElem?_eq_getElem hj)
    rw [Nat.mul_comm,Nat.div_add_mod]at hy
    have:y=u:=by
     have e:cs[B.off+k]? = some u:=by rw [List.getElem?_drop]at hk;simpa using hk
     rw [e]at hy;exact(Option.some.inj hy).symm
    subst this
    exact((Rep.dat (φ:=φ) hD).oneCell (hrow.2 _ (List.getElem_mem _))).2
   ·rw [if_neg h]at hk;simp at hk
  ·obtain⟨hi',hin⟩:=get i r hi
   obtain⟨y,hy,hD⟩:=h3 i r hi' j v hj
   have hjz:j<B.z:=by have:=(List.getElem?_eq_some_iff.1 hj).1;rwa [(hok r (List.mem_of_getElem? hi')).1]at this
   have hlt:i*B.z+j<n*B.z:=by
    have:(i+1)*B.z≤n*B.z:=Nat.mul_le_mul_right _ hin
    rw [Nat.add_mul]at this;omega
   exact⟨y,by rw [List.getElem?_take,if_pos hlt,List.getElem?_drop];simpa using hy,hD⟩
end Go.Vm
