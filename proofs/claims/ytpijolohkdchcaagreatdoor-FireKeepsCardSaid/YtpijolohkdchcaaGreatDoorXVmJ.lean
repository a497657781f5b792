/- A part of the proof; what it holds is told at each theorem. -/
import Derived.Test.YtpijolohkdchcaaGreatDoorXVmI
import Derived.Lib.Space
set_option linter.unusedVariables false
set_option linter.unusedSimpArgs false
set_option linter.unusedSectionVars false
set_option linter.deprecated false
namespace Go.Vm
open Go Go.RowKit
structure Ins (S:Nat→Prop) (φ:Nat→Option Blk) (w:World) (vals:Array Value) (args:List V) (hs:List (Nat×Ob)):Prop where
 lt:∀k,S k→k<w.heap.size
 inj:∀o o' B B' k,φ o=some B→φ o'=some B'→B.has k→B'.has k→o=o'
 dom:∀o B,φ o=some B→100000≤o∧(∀k,B.has k→k<w.heap.size∧¬S k)∧∃ob,look hs o=some ob
 size:vals.size=args.length
 args:∀(j:Nat) x v,vals[j]? = some x→args[j]? = some v→Rep φ S w x v
 heap:∀o ob,look hs o=some ob→(∃B,φ o=some B∧Qbi φ S w B ob)∨(φ o=none∧∃z,ob=.arr z [])
def Aft (S:Nat→Prop)(φ:Nat→Option Blk)(w w':World)(k:Nat):Prop:=k<w'.heap.size∧(k<w.heap.size→S k)∧∀o B,φ o=some B→¬B.has k
structure Outs (S:Nat→Prop) (φ:Nat→Option Blk) (w:World) (φ':Nat→Option Blk) (w':World) (x:Value) (v:V) (hs:List (Nat×Ob)):Prop where
 os:w'.os=w.os
 tape:w'.tape=w.tape
 output:w'.output=w.output
 size:w.heap.size≤w'.heap.size
 kept:∀k,k<w.heap.size→(∀o B,φ o=some B→¬B.has k)→w'.heap[k]? = w.heap[k]?
 inj:∀o o' B B' k,φ' o=some B→φ' o'=some B'→B.has k→B'.has k→o=o'
 dom:∀o B,φ' o=some B→∃ob,look hs o=some ob
 lt:∀o B k,φ' o=some B→B.has k→k<w'.heap.size∧(k<w.heap.size→∃o' B',φ o'=some B'∧B'.has k)
 new:∀o B k,φ' o=some B→B.has k→o<100000→w.heap.size≤k
 stay:Qmg φ φ' hs
 rep:Rep φ' (Aft S φ' w w') w' x v
 heap:∀o ob,look hs o=some ob→(∃B,φ' o=some B∧Qbi φ' (Aft S φ' w w') w' B ob)∨(φ' o=none∧∃z,ob=.arr z [])
def QuR (P:Program):Option Nat:=P.globalNamed "strings.asciiSpace"
def Glob (P:Program)(S:Nat→Prop)(w:World):Prop:=∀g,QuR P=some g→S g∧g<w.heap.size∧∀c:Nat,c<256→w.cell? ⟨g,c,none⟩=some (.int .u8 (if Lib.isSp (UInt8.ofNat c)then 1 else 0))
theorem Glob.mono {P:Program}{S S':Nat→Prop}{w:World}(h:Glob P S w)(hs:∀k,S k→S' k):Glob P S' w:=fun g hg=>let ⟨a,b⟩:=h g hg;⟨hs g a,b⟩
def Ctx.pg (C:Ctx)(P:Program):Prop:=Glob P C.S C.w0∧∀g,QuR P=some g→¬C.W g
structure Qem (P:Program) (C:Ctx) (n:Nat):Prop where
 n:C.n=n
 g:C.pg P
theorem bleN {n m d:Nat}(h:m=n)(e:Nat.ble (d+1) n=true):Nat.ble (d+1) m=true:=h▸e
theorem RR.glob {P:Program}{C:Ctx}{φ:Nat→Option Blk}{σ:St}{a:Act}{w:World}(hr:RR C φ σ a w)(hg:C.pg P):Glob P (Imm C φ w) w:=fun g h=>by
 obtain⟨s,l,c⟩:=hg.1 g h
 have nW:=hg.2 g h
 refine⟨⟨Nat.lt_of_lt_of_le l hr.size,fun _=>s,fun o B hB hb=>nW ((hr.lt o B g hB hb).2 l)⟩,Nat.lt_of_lt_of_le l hr.size,fun i hi=>?_⟩
 rw [World.cell?_of_block (hr.kept g l nW)]
 exact c i hi
def Qc (P:Program)(f:FuncId)(args:List V)(hs:List (Nat×Ob))(post:V→List (Nat×Ob)→Prop):Prop:=
 ∀(S:Nat→Prop) (φ:Nat→Option Blk) (w:World) (vals:Array Value),Ins S φ w vals args hs→Glob P S w→
  Calls P f vals w fun e w'=>∃x v hs' φ',e=.returned x∧post v hs'∧Outs S φ w φ' w' x v hs'
theorem Qc.mono {P:Program}{f:FuncId}{args:List V}{hs:List (Nat×Ob)}{post post':V→List (Nat×Ob)→Prop}(h:Qc P f args hs post)(hp:∀v hs,post v hs→post' v hs):Qc P f args hs post':=
 fun S φ w vals hi hG=>(h S φ w vals hi hG).mono fun _ _ ⟨x,v,hs',φ',h1,h2,h3⟩=>⟨x,v,hs',φ',h1,hp v hs' h2,h3⟩
def frOf : Nat→List V→List (Nat×V)
 | _,[]=>[]
 | k,v::r=>(k,v)::frOf (k+1) r
theorem Qro : ∀(l:List V) (k t:Nat) (v:V),look (frOf k l) t=some v→k≤t∧l[t-k]? = some v:=by
 intro l
 induction l with
 | nil=>intro k t v h;cases h
 | cons u l ih=>
  intro k t v h
  by_cases e:k=t
  ·subst e;rw [frOf,Qq]at h;cases h;simp
  ·rw [frOf,Qn _ _ e]at h
   obtain⟨h1,h2⟩:=ih (k+1) t v h
   refine⟨by omega,?_⟩
   rw [show t-k=(t-(k+1))+1 by omega];simpa using h2
def Res (P:Program)(σ:St):List ResultVar→List V→Prop
 | [],[]=>True
 | .tmp t::r,v::vs=>look σ.fr t=some v∧Res P σ r vs
 | .cell p T::r,v::vs=>(∃b cs,look σ.fr p=some (.loc b 0 0)∧look σ.hp b=some (.var cs)∧((aggB P T=some true∧Qfy P T=some cs.length∧v=.agg cs)∨(aggB P T=some false∧cs=[v])))∧Res P σ r vs
 | _,_=>False
def retV : List V→V
 | [v]=>v
 | vs=>.tup vs
def retQ (P:Program)(rv:List ResultVar)(post:V→List (Nat×Ob)→Prop):Exit→St→Prop
 | .normal,σ=>∃vs,Res P σ rv vs∧post (retV vs) σ.hp
 | .ret,σ=>∃vs,Res P σ rv vs∧post (retV vs) σ.hp
 | _,_=>False
def Qjb (tmps:Array Value):ResultVar→Sem Value
 | .tmp t=>pure (tmps.getD t undef)
 | .cell a t=>do loadVar t (←asAddr (tmps.getD a undef))
section
variable {P:Program}{C:Ctx}{φ:Nat→Option Blk}{σ:St}{a:Act}{w:World}
theorem RR.resList (hr:RR C φ σ a w):∀(rv:List ResultVar) (vs:List V),Res P σ rv vs→
  ∃xs:List Value,(rv.mapM (Qjb a.tmps)).run P w=.ok xs w∧xs.length=vs.length∧∀(j:Nat) x v,xs[j]? = some x→vs[j]? = some v→Rep φ (Imm C φ w) w x v:=by
 intro rv
 induction rv with
 | nil=>
  intro vs h
  cases vs with
  | nil=>exact⟨[],rfl,rfl,by simp⟩
  | cons=>cases h
 | cons r rv ih=>
  intro vs h
  cases vs with
  | nil=>cases r<;>cases h
  | cons v vs=>
   have key:∃x,(Qjb a.tmps r).run P w=.ok x w∧Rep φ (Imm C φ w) w x v∧Res P σ rv vs:=by
    cases r with
    | tmp t=>
     obtain⟨h1,h2⟩:=h
     obtain⟨x,hx,hrep⟩:=hr.frame t v h1
     exact⟨x,by simp [Qjb,Array.getD_eq_getD_getElem?,hx],hrep,h2⟩
    | cell p T=>
     obtain⟨⟨b,cs,h1,h2,h3⟩,h4⟩:=h
     obtain⟨x,hx,hrep⟩:=hr.frame p _ h1
     obtain⟨B,hB,rfl⟩:=hrep.loc_inv
     obtain⟨xs,E,e1,e2,e0,e3⟩:=hr.block hB h2
     have hread:∀y,(Instr.loadAt T (.pointer (some ⟨B.b,B.off+(0*B.z+0),none⟩))).run P w=.ok y w→(Qjb a.tmps (.cell p T)).run P w=.ok y w:=by
      intro y hy
      simp only [Qjb,Array.getD_eq_getD_getElem?,hx,Option.getD_some,asAddr,Sem.run_bind,Sem.run_pure,Result.andThen_ok]
      simpa only [Instr.loadAt,Instr.sureAddr,Sem.run_bind,Sem.run_pure,Result.andThen_ok] using hy
     rcases h3 with⟨g1,g2,rfl⟩|⟨g1,rfl⟩
     ·have hc:∀j,j<cs.length→w.cell? ((⟨B.b,B.off+(0*B.z+0),none⟩:Addr).add j)=some (xs.getD j undef):=by
       intro j hj
       have:j<xs.size:=by omega
       simp [Addr.add_lit,World.cell?,e1,Array.getD,this,e0]
      refine⟨_,hread _ (QkJ _ g1 g2 hc),.agg _ _ (by simp) fun j y u hy hu=>?_,h4⟩
      simp only [List.getElem?_toArray,List.getElem?_map,Option.map_eq_some_iff,List.getElem?_eq_some_iff,List.length_range,List.getElem_range]at hy
      obtain⟨_,⟨hj,rfl⟩,rfl⟩:=hy
      have hlt:j<xs.size:=by omega
      exact e3 j _ u (by simp [Array.getD,hlt]) hu
     ·have hlt:0<xs.size:=by rw [e2];simp
      exact⟨xs[0],hread _ (QiJ g1 (by simp [World.cell?,e1,hlt,e0])),e3 0 _ _ (Array.getElem?_eq_getElem hlt) rfl,h4⟩
   obtain⟨x,h1,h2,h3⟩:=key
   obtain⟨xs,h4,h5,h6⟩:=ih vs h3
   refine⟨x::xs,by rw [List.mapM_cons];simp only [Sem.run_bind,h1,Result.andThen_ok,h4,Sem.run_pure],by simp [h5],fun j y u hy hu=>?_⟩
   cases j with
   | zero=>simp at hy hu;subst hy;subst hu;exact h2
   | succ j=>exact h6 j y u hy hu
theorem RR.result (hr:RR C φ σ a w){fn:Func}{vs:List V}(h:Res P σ fn.results.toList vs):∃x,(results fn a.tmps).run P w=.ok x w∧Rep φ (Imm C φ w) w x (retV vs):=by
 obtain⟨xs,h1,h2,h3⟩:=hr.resList fn.results.toList vs h
 have hm:(fn.results.mapM (Qjb a.tmps)).run P w=.ok xs.toArray w:=by
  rw [Array.mapM_eq_mapM_toList,Sem.run_map,h1];rfl
 have hres:(results fn a.tmps).run P w=.ok (if h:xs.toArray.size=1 then xs.toArray[0]else .tuple xs.toArray) w:=by
  have:results fn a.tmps=(do
    let vs ←fn.results.mapM (Qjb a.tmps)
    pure (if h:vs.size=1 then vs[0]else .tuple vs)):=by
   unfold results
   congr 1
  rw [this]
  simp only [Sem.run_bind,hm,Result.andThen_ok,Sem.run_pure]
 refine⟨_,hres,?_⟩
 by_cases h1':xs.toArray.size=1
 ·rw [dif_pos h1']
  have:∃v,vs=[v]:=List.length_eq_one_iff.1 (by rw [←h2];simpa using h1')
  obtain⟨v,rfl⟩:=this
  have hl:0<xs.length:=by rw [h2];simp
  refine h3 0 _ v ?_ rfl
  simp [List.getElem?_eq_getElem hl]
 ·rw [dif_neg h1']
  have:retV vs=.tup vs:=by
   cases vs with
   | nil=>rfl
   | cons v vs=>cases vs with
    | nil=>exact absurd (by simpa using h2) h1'
    | cons=>rfl
  rw [this]
  exact .tup _ _ (by simpa using h2) fun j x v hx hv=>h3 j x v (by simpa using hx) hv
theorem RR.unmark {ts:Array Value}{Ds:List Nat}{D:Nat}(hn:(D::Ds).Nodup)(hm:∀D'∈D::Ds,C.w0.heap.size≤D'∧Imm C φ w D'∧w.heap[D']? = some (.deferred (some [])))
  {ds:List Deferred} (hr:RR C φ σ ⟨ts,ds⟩ w):RR C φ σ ⟨ts,Ds.map (fun D=>{ target:=.collected D,args:=#[] })⟩ (w.putObj D (.deferred none)):=by
 obtain⟨hD0,hD1,hD2⟩:=hm D List.mem_cons_self
 have ho:∀k,k≠D→(w.putObj D (.deferred none)).heap[k]? = w.heap[k]? := fun k hk=>World.putObj_heap_other hk
 have hsz:(w.putObj D (.deferred none)).heap.size=w.heap.size:=World.putObj_size
 have hI:∀k,Imm C φ w k→Imm C φ (w.putObj D (.deferred none)) k∧∀i,(w.putObj D (.deferred none)).cell? ⟨k,i,none⟩=w.cell? ⟨k,i,none⟩:=fun k hk=>by
  refine⟨⟨by rw [hsz];exact hk.1,hk.2⟩,fun i=>?_⟩
  by_cases e:k=D
  ·subst e
   simp only [World.cell?,World.putObj_heap_same hD1.1,hD2]
  ·exact World.cell?_of_block (w:=w) (ho k e)
 have hob:∀o B k,φ o=some B→B.has k→(w.putObj D (.deferred none)).heap[k]? = w.heap[k]? := fun o B k hB hk=>ho k fun e=>hD1.2.2 o B hB (e▸hk)
 refine⟨hr.os,hr.tape,hr.output,by rw [hsz];exact hr.size,fun k h1 h2=>(ho k (by omega)).trans (hr.kept k h1 h2),hr.inj,hr.dom,fun o B k hB hk=>by rw [hsz];exact hr.lt o B k hB hk,hr.new,hr.stay,hr.tmps,
  ⟨Ds,rfl,(List.nodup_cons.1 hn).2,fun D' hD'=>?_⟩,fun t v hv=>?_,fun o ob hob'=>?_⟩
 ·obtain⟨a1,a2,a3⟩:=hm D' (List.mem_cons_of_mem _ hD')
  exact⟨a1,⟨by rw [hsz];exact a2.1,a2.2⟩,(ho D' fun e=>(List.nodup_cons.1 hn).1 (e▸hD')).trans a3⟩
 ·obtain⟨x,hx,hrep⟩:=hr.frame t v hv
  exact⟨x,hx,hrep.monoC (fun _ _ h=>h) hI⟩
 ·rcases hr.heap o ob hob' with⟨B,hB,hrep⟩|hn
  ·exact .inl ⟨B,hB,hrep.monoC (fun _ _ h=>h) hI (fun k hk=>hob o B k hB hk)⟩
  ·exact .inr hn
theorem Qc.enter {f:FuncId}{fn:Func}{c:Code}{n:Nat}{args:List V}{hs:List (Nat×Ob)}{post:V→List (Nat×Ob)→Prop}(hf:P.funcs[f]? = some fn)(hb:fn.body=some c)(hn:fn.ntmps=n)
  (hle:Nat.ble args.length n=true) (hsm:Nat.ble n 200000=true) (h:∀C:Ctx,Qem P C n→C.rnd=none→AWp P C c ⟨frOf 0 args,hs⟩ (retQ P fn.results.toList post)):Qc P f args hs post:=by
 intro S φ w vals hi hG
 have hle:=Nat.le_of_ble_eq_true hle
 refine(callsIn_wide (n:=0)).1 (callsIn_of_wp_marks hf hb trivial ?_)
 let C:Ctx:=⟨w,S,fun k=>∃o B,φ o=some B∧B.has k,n,φ,Nat.le_of_ble_eq_true hsm,none⟩
 have hI:∀k,S k→Imm C φ w k∧w.heap[k]? = w.heap[k]? := fun k hk=>⟨⟨hi.lt k hk,fun _=>hk,fun o B hB e=>((hi.dom o B hB).2.1 k e).2 hk⟩,rfl⟩
 have hR:R C ⟨frOf 0 args,hs⟩ { tmps:=vals++Array.replicate (fn.ntmps-vals.size) undef,defers:=[] } w:=by
  refine⟨φ,rfl,rfl,rfl,Nat.le_refl _,fun _ _ _=>rfl,hi.inj,fun o B hB=>(hi.dom o B hB).2.2,fun o B k hB hk=>⟨((hi.dom o B hB).2.1 k hk).1,fun _=>⟨o,B,hB,hk⟩⟩,fun o B k hB hk hlt=>absurd (hi.dom o B hB).1 (by omega),⟨fun _ _ _ h=>h,fun _ _ _ _ _ h=>h⟩,
   by simp [hi.size,hn];show _=n;omega,⟨[],rfl,List.nodup_nil,fun _ h=>by cases h⟩,fun t v hv=>?_,fun o ob hob=>?_⟩
  ·obtain⟨_,h2⟩:=Qro args 0 t v hv
   rw [Nat.sub_zero]at h2
   have hlt:t<vals.size:=by rw [hi.size];exact(List.getElem?_eq_some_iff.1 h2).1
   refine⟨vals[t],?_,(hi.args t _ v (Array.getElem?_eq_getElem hlt) h2).mono (fun _ _ h=>h) hI⟩
   simp [Array.getElem?_append,hlt]
  ·rcases hi.heap o ob hob with⟨B,hB,hr⟩|hn
   ·exact .inl ⟨B,hB,hr.mono (fun _ _ h=>h) hI fun _ _=>rfl⟩
   ·exact .inr hn
 have hok:Qem P C n:=⟨rfl,hG,fun g hg ⟨o,B,hB,hb⟩=>((hi.dom o B hB).2.1 g hb).2 (hG g hg).1⟩
 refine wpIn_mono (h C hok rfl _ _ hR) ?_
 rintro e a' w' ⟨σ',hq,φ',hr⟩
 have done:(∃vs,Res P σ' fn.results.toList vs∧post (retV vs) σ'.hp)→LeavesInM Fence.wide 0 P fn a'.tmps (fun e w'=>∃x v hs' φ',e=.returned x∧post v hs'∧Outs S φ w φ' w' x v hs') a'.defers .returning w':=by
  rintro ⟨vs,h1,h2⟩
  obtain⟨Ds,hds,hnd,hm⟩:=hr.defers
  obtain⟨ts,ds⟩:=a'
  simp only at hds
  subst hds
  simp only
  revert w'
  induction Ds with
  | nil=>
   intro w' hm hr
   obtain⟨x,h3,h4⟩:=hr.result (P:=P) h1
   exact⟨x,h3,x,retV vs,σ'.hp,φ',rfl,h2,hr.os,hr.tape,hr.output,hr.size,fun k hk hne=>hr.kept k hk (fun ⟨o,B,hB,e⟩=>hne o B hB e),hr.inj,hr.dom,
    fun o B k hB hk=>⟨(hr.lt o B k hB hk).1,fun hlt=>(hr.lt o B k hB hk).2 hlt⟩,hr.new,hr.stay,h4,hr.heap⟩
  | cons D Ds ih=>
   intro w' hm hr
   refine⟨by simp,.inl ⟨D,w'.putObj D (.deferred none),rfl,run_takeDeferred (hm D List.mem_cons_self).2.2,?_⟩⟩
   have hr':=hr.unmark hnd hm
   obtain⟨Ds',e1,e2,e3⟩:=hr'.defers
   refine ih (List.nodup_cons.1 hnd).2 _ ?_ hr'
   have:Ds'=Ds:=by
    have inj:∀(l l':List Nat),l.map (fun D=>({ target:=.collected D,args:=#[] }:Deferred))=l'.map (fun D=>{ target:=.collected D,args:=#[] })→l=l':=by
     intro l
     induction l with
     | nil=>intro l' h;cases l' with
      | nil=>rfl
      | cons=>cases h
     | cons x l ih=>intro l' h;cases l' with
      | nil=>cases h
      | cons y l'=>simp only [List.map_cons,List.cons.injEq,Deferred.mk.injEq]at h;injection h.1.1 with h1;rw [h1,ih l' h.2]
    exact(inj _ _ e1).symm
   rw [←this];exact e3
 cases e with
 | normal=>exact done hq
 | ret=>exact done hq
 | _=>exact hq.elim
end
end Go.Vm
