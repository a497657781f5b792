/- A part of the proof; what it holds is told at each theorem. -/
import Derived.Test.YtpijolohkdchcaaGreatDoorXVmW
set_option linter.unusedVariables false
set_option linter.unusedSimpArgs false
set_option linter.unusedSectionVars false
set_option linter.deprecated false
namespace Go.Vm
open Go Go.RowKit
section
variable {τ ρ π:Type}
def runL (body:τ→π→Option (τ⊕ρ)):τ→List π→Option (τ⊕ρ)
 | s,[]=>some (.inl s)
 | s,p::l=>(body s p).bind fun o=>Sum.elim (fun s'=>runL body s' l) (fun r=>some (.inr r)) o
open Classical in
noncomputable def Qg9 (body:τ→π→Option (τ⊕ρ))(s:τ):List π→Option (τ⊕ρ)
 | []=>some (.inl s)
 | [p]=>runL body s [p]
 | l=>if ∀l':List π,l'.Perm l→runL body s l'=runL body s l then runL body s l else none
theorem Qii {body:τ→π→Option (τ⊕ρ)}{s:τ}{l:List π}{o:τ⊕ρ}:Qg9 body s l=some o↔(∀l':List π,l'.Perm l→runL body s l'=runL body s l)∧runL body s l=some o:=by
 unfold Qg9
 split
 ·exact⟨fun h=>⟨fun l' hl=>by rw [hl.eq_nil],h⟩,fun h=>h.2⟩
 ·exact⟨fun h=>⟨fun l' hl=>by rw [List.perm_singleton.1 hl],h⟩,fun h=>h.2⟩
 ·split
  ·rename_i h;exact Iff.intro (fun e=>⟨h,e⟩) (fun e=>e.2)
  ·rename_i h;exact Iff.intro (fun e=>(by cases e)) (fun e=>absurd e.1 h)
theorem Qmt {body:τ→π→Option (τ⊕ρ)}:∀{l m:List π} {s:τ},runL body s (l++m)=(runL body s l).bind fun o=>Sum.elim (fun s'=>runL body s' m) (fun r=>some (.inr r)) o:=by
 intro l
 induction l with
 | nil=>intro m s;rfl
 | cons p l ih=>
  intro m s
  simp only [List.cons_append,runL]
  cases body s p with
  | none=>rfl
  | some o=>
   cases o with
   | inl s'=>exact ih
   | inr r=>rfl
end
def QaM {π:Type}(L:List (MapEntry×π))(seen:Array Nat):List (MapEntry×π):=L.filter fun q=>!seen.contains q.1.born
theorem Qng {π:Type}{L:List (MapEntry×π)}(hn:(L.map (·.1.born)).Nodup){seen:Array Nat}{q:MapEntry×π}(hq:q∈QaM L seen):(QaM L seen).Perm (q::QaM L (seen.push q.1.born)):=by
 have key:∀(l:List (MapEntry×π)),(l.map (·.1.born)).Nodup→∀p:MapEntry×π→Bool,q∈l→p q=true→(l.filter p).Perm (q::l.filter fun e=>p e&&!(e.1.born==q.1.born)):=by
  intro l
  induction l with
  | nil=>intro _ p h;simp at h
  | cons y l ih=>
   intro hn p hx hp
   rw [List.map_cons,List.nodup_cons]at hn
   rcases List.mem_cons.1 hx with rfl | hx
   ·have h1:l.filter (fun e=>p e&&!(e.1.born==q.1.born))=l.filter p:=by
     apply List.filter_congr
     intro e he
     have:e.1.born≠q.1.born:=fun h=>hn.1 (by rw [←h];exact List.mem_map_of_mem (f:=fun q:MapEntry×π=>q.1.born) he)
     simp [this]
    simp [List.filter_cons,hp,h1]
   ·have hne:y.1.born≠q.1.born:=fun h=>hn.1 (by rw [h];exact List.mem_map_of_mem (f:=fun q:MapEntry×π=>q.1.born) hx)
    have h2:=ih hn.2 p hx hp
    by_cases hy:p y=true
    ·have e1:(y::l).filter p=y::l.filter p:=by simp [List.filter_cons,hy]
     have e2:((y::l).filter fun e=>p e&&!(e.1.born==q.1.born))=y::l.filter fun e=>p e&&!(e.1.born==q.1.born):=by simp [List.filter_cons,hy,hne]
     rw [e1,e2]
     exact(List.Perm.cons y h2).trans (List.Perm.swap _ _ _)
    ·have e1:(y::l).filter p=l.filter p:=by simp [List.filter_cons,hy]
     have e2:((y::l).filter fun e=>p e&&!(e.1.born==q.1.born))=l.filter fun e=>p e&&!(e.1.born==q.1.born):=by simp [List.filter_cons,hy]
     rw [e1,e2];exact h2
 have e2:QaM L (seen.push q.1.born)=L.filter fun e=>(!seen.contains e.1.born)&&!(e.1.born==q.1.born):=by
  unfold QaM
  apply List.filter_congr
  intro e _
  rw [Bool.eq_iff_iff]
  simp [Array.mem_push]
 rw [e2]
 unfold QaM at hq ⊢
 rw [List.mem_filter]at hq
 exact key L hn _ hq.1 hq.2
theorem Qs8 {α:Type}:∀{l m:List α},l.Nodup→(∀x∈l,x∈m)→m.length≤l.length→l.Perm m:=by
 classical
 intro l
 induction l with
 | nil=>intro m _ _ h;have:m=[]:=List.length_eq_zero_iff.1 (Nat.le_zero.1 h);subst this;exact .nil
 | cons x l ih=>
  intro m hn hs hl
  rw [List.nodup_cons]at hn
  have hx:=hs x List.mem_cons_self
  have hp:=List.perm_cons_erase hx
  refine(List.Perm.cons x (ih hn.2 (fun y hy=>?_) ?_)).trans hp.symm
  ·have hne:y≠x:=fun e=>hn.1 (e▸hy)
   exact(List.mem_erase_of_ne hne).2 (hs y (List.mem_cons_of_mem _ hy))
  ·have:=hp.length_eq
   simp at this hl
   omega
section
variable {P:Program}{C:Ctx}{Q:Exit→St→Prop}{σ σ':St}{ks:List Fr}{o:Oper}
theorem AK.weakenE {ι:Type _}{f:ι→St}{pt:Pt}(h:∀a w,R C σ a w→∃i,R C (f i) a w)(k:∀i,AK P C Q pt ks (f i)):AK P C Q pt ks σ:=by
 cases pt with
 | c c=>exact fun a w hR=>let ⟨i,hi⟩:=h a w hR;k i a w hi
 | o ops l=>exact fun a w hR=>let ⟨i,hi⟩:=h a w hR;k i a w hi
 | x e=>exact fun a w hR=>let ⟨i,hi⟩:=h a w hR;k i a w hi
def typV {κ α:Type}(e:κ→V)(f:α→V)(L:List (MapEntry×(κ×α))):List (MapEntry×(V×V)):=L.map fun q=>(q.1,(e q.2.1,f q.2.2))
theorem AK.openMap {κ α:Type}[DecidableEq κ]{K:TypeId}{e:κ→V}{val:κ→Value}{f:α→V}{lt:List (κ×α)}{b:Nat}{pt:Pt}(hk:Qgb P K e val)(hb:look σ.hp b=some (.map (mapV e f lt)))
  (h:∀bm clock (L:List (MapEntry×(κ×α))),(L.map (·.1.born)).Nodup→(L.map Prod.snd).Perm lt→AK P C Q pt ks (σ.set b (.mapX bm clock (typV e f L) (mapV e f lt)))):AK P C Q pt ks σ:=by
 have key:∀a w,R C σ a w→∃i:{ i:Nat×Nat×List (MapEntry×(κ×α)) // (i.2.2.map (·.1.born)).Nodup∧(i.2.2.map Prod.snd).Perm lt },R C (σ.set b (.mapX i.1.1 i.1.2.1 (typV e f i.1.2.2) (mapV e f lt))) a w:=by
  intro a w ⟨φ,hr⟩
  rcases hr.heap b _ hb with⟨B,hB,hrep⟩|⟨_,z,h2⟩
  ·obtain⟨es,clock,h1,h2,h3,h4,h5,h6⟩:=hrep
   have hL:∀l:List MapEntry,(∀x∈l,x∈es.toList)→∃L:List (MapEntry×(κ×α)),L.map Prod.fst=l∧∀q∈L,q.2∈lt∧Dat (Imm C φ w) w q.1.key (e q.2.1)∧Dat (Imm C φ w) w q.1.val (f q.2.2):=by
    intro l
    induction l with
    | nil=>intro _;exact⟨[],rfl,fun q hq=>by simp at hq⟩
    | cons x l ih=>
     intro hx
     obtain⟨L,e1,e2⟩:=ih fun y hy=>hx y (List.mem_cons_of_mem _ hy)
     obtain⟨p,hp,a1,a2⟩:=h5 x (hx x List.mem_cons_self)
     obtain⟨q,hq,rfl⟩:=List.mem_map.1 hp
     exact⟨(x,q)::L,by rw [List.map_cons,e1],fun y hy=>by
      rcases List.mem_cons.1 hy with rfl | hy
      ·exact⟨hq,a1,a2⟩
      ·exact e2 y hy⟩
   obtain⟨L,e1,e2⟩:=hL es.toList fun _ h=>h
   have hn:=(Qnd hk.einj).1 h3
   have hborn:(L.map (·.1.born)).Nodup:=by
    have:L.map (·.1.born)=es.toList.map (·.born):=by rw [←e1,List.map_map];rfl
    rw [this];exact h2.2.1
   have hkeys:(L.map fun q=>q.2.1).Nodup:=by
    have h7:(L.map fun q=>q.1.key).Nodup:=by
     have:(L.map fun q=>q.1.key)=es.toList.map (·.key):=by rw [←e1,List.map_map];rfl
     rw [this];exact h2.2.2
    have h8:(L.map fun q=>q.1.key)=(L.map fun q=>q.2.1).map val:=by
     rw [List.map_map]
     apply List.map_congr_left
     intro q hq
     exact hk.inv _ _ _ _ (e2 q hq).2.1
    rw [h8]at h7
    exact(List.pairwise_map.1 h7).imp fun hab e'=>hab (by rw [e'])
   have hperm:(L.map Prod.snd).Perm lt:=by
    have hnd:(L.map Prod.snd).Nodup:=by
     have:(L.map fun q=>q.2.1)=(L.map Prod.snd).map Prod.fst:=by rw [List.map_map];rfl
     rw [this]at hkeys
     exact(List.pairwise_map.1 hkeys).imp fun hab e'=>hab (by rw [e'])
    have hsub:∀q∈L.map Prod.snd,q∈lt:=fun q hq=>by
     obtain⟨y,hy,rfl⟩:=List.mem_map.1 hq
     exact(e2 y hy).1
    have hlen:lt.length≤(L.map Prod.snd).length:=by
     have:(L.map Prod.fst).length=es.toList.length:=by rw [e1]
     simp [mapV]at h4 this ⊢
     omega
    have hltnd:lt.Nodup:=(List.pairwise_map.1 hn).imp fun hab e'=>hab (by rw [e'])
    exact Qs8 hnd hsub hlen
   have hes:es=(L.map Prod.fst).toArray:=by rw [e1]
   have hfst:(typV e f L).map Prod.fst=L.map Prod.fst:=by simp [typV]
   refine⟨⟨(B.b,clock,L),hborn,hperm⟩,φ,?_⟩
   refine hr.say' hb (fun B' hB' _=>?_) (fun z e'=>by cases e')
   rw [hB]at hB';cases hB'
   refine⟨rfl,by rw [h1,hfst,hes],by rw [hfst,←hes];exact h2,h3,?_,fun q hq=>?_⟩
   ·have:(typV e f L).map Prod.snd=mapV e f (L.map Prod.snd):=by simp [typV,mapV]
    rw [this];exact hperm.map _
   ·obtain⟨q',hq',rfl⟩:=List.mem_map.1 hq
    exact(e2 q' hq').2
  ·cases h2
 exact AK.weakenE key fun i=>h _ _ _ i.2.1 i.2.2
theorem R.closeMap {b bm clock:Nat}{L:List (MapEntry×(V×V))}{l:List (V×V)}(hb:look σ.hp b=some (.mapX bm clock L l)){a:Act}{w:World}(h:R C σ a w):R C (σ.set b (.map l)) a w:=by
 obtain⟨φ,hr⟩:=h
 refine⟨φ,hr.say' hb (fun B hB hrep=>?_) (fun z e'=>by cases e')⟩
 obtain⟨h1,h2,h3,h4,h5,h6⟩:=hrep
 refine⟨(L.map Prod.fst).toArray,clock,h2,h3,h4,by have:=h5.length_eq;simpa using this,fun x hx=>?_,fun p hp=>?_⟩
 ·obtain⟨q,hq,rfl⟩:=List.mem_map.1 (by simpa using hx:x∈L.map Prod.fst)
  exact⟨q.2,h5.mem_iff.1 (List.mem_map_of_mem hq),(h6 q hq).1,(h6 q hq).2⟩
 ·obtain⟨q,hq,rfl⟩:=List.mem_map.1 (h5.mem_iff.2 hp)
  exact⟨q.1,by simpa using (⟨q.2.1,q.2.2,hq⟩:∃a b,(q.1,a,b)∈L),(h6 q hq).1,(h6 q hq).2⟩
theorem AK.closeMap {b bm clock:Nat}{L:List (MapEntry×(V×V))}{l:List (V×V)}{pt:Pt}(hb:look σ.hp b=some (.mapX bm clock L l))(k:AK P C Q pt ks (σ.set b (.map l))):AK P C Q pt ks σ:=AK.weaken (fun _ _ h=>R.closeMap hb h) k
theorem Stp.range {T d b bm clock K E:Nat}{x:Operand}{L:List (MapEntry×(V×V))}{l:List (V×V)}(ho:o.op=.range T x)(hd:o.dst=some d)(hn:Nat.ble (d+1) C.n=true)(hx:σ.opd x=some (.map b))(hb:look σ.hp b=some (.mapX bm clock L l))
  (hT:mapT P T=some (K,E)) (hf:look σ.hp d=none):Stp P C o σ ((σ.set d (.itr bm clock #[] none)).put d (.loc d 0 0)):=by
 refine Stp.val fun φ a w hr=>?_
 obtain⟨B,hB,hev⟩:=(hr.opd hx).map_inv
 obtain⟨rfl,h2,_⟩:=hr.block hB hb
 refine⟨.pointer (some ⟨w.heap.size,0,none⟩),w.alloc (.mapIter (some B.b) clock #[] clock),ext φ d ⟨w.heap.size,1,0,[],0⟩,?_,?_⟩
 ·simp only [execOp,ho,hev,Sem.run_bind,run_range_map w T K E B.b _ clock (Qkp hT) h2,Result.andThen_ok,Sem.run_pure]
 ·rw [hd]
  refine(hr.alloc (cap:=1) (z:=0) hf (C.slot hn) (ob:=.itr B.b clock #[] none) (obj:=.mapIter (some B.b) clock #[] clock) ⟨heap_alloc_new w _,rfl,fun x h=>by cases h⟩).put (QS hn) ?_
  exact .loc d 0 0 ⟨w.heap.size,1,0,[],0⟩ (QM _ _ _)
theorem Stp.range0 {T d K E:Nat}{x:Operand}(ho:o.op=.range T x)(hd:o.dst=some d)(hn:Nat.ble (d+1) C.n=true)(hx:σ.opd x=some (.lit (.map none)))(hT:mapT P T=some (K,E))(hf:look σ.hp d=none):
  Stp P C o σ ((σ.set d .itr0).put d (.loc d 0 0)):=by
 refine Stp.val fun φ a w hr=>?_
 have hev:=(hr.opd hx).lit_inv
 refine⟨.pointer (some ⟨w.heap.size,0,none⟩),w.alloc (.mapIter none 0 #[] 0),ext φ d ⟨w.heap.size,1,0,[],0⟩,?_,?_⟩
 ·simp only [execOp,ho,hev,Sem.run_bind,run_range_nilMap w T K E (Qkp hT),Result.andThen_ok,Sem.run_pure]
 ·rw [hd]
  refine(hr.alloc (cap:=1) (z:=0) hf (C.slot hn) (ob:=.itr0) (obj:=.mapIter none 0 #[] 0) ⟨#[],0,heap_alloc_new w _,rfl⟩).put (QS hn) ?_
  exact .loc d 0 0 ⟨w.heap.size,1,0,[],0⟩ (QM _ _ _)
theorem Stp.next0 {d b:Nat}{x:Operand}(ho:o.op=.next x false)(hd:o.dst=some d)(hn:Nat.ble (d+1) C.n=true)(hx:σ.opd x=some (.loc b 0 0))(hb:look σ.hp b=some .itr0):Stp P C o σ (σ.put d (.tup [.b false])):=by
 refine Stp.val fun φ a w hr=>?_
 obtain⟨B,hB,hev⟩:=(hr.opd hx).loc_inv
 obtain⟨s,c,h1,h0⟩:=hr.block hB hb
 refine⟨.tuple #[.bool false],w,φ,?_,?_⟩
 ·simp only [Nat.zero_mul,Nat.add_zero,h0]at hev
  simp only [execOp,ho,hev,Sem.run_bind]
  have:(Instr.next (.pointer (some ⟨B.b,0,none⟩)) false o.type).run P w=.ok (.tuple #[.bool false]) w:=by
   simp only [Instr.next,getObj,Sem.run_bind,Sem.run,h1,Result.andThen]
   rfl
  rw [this];rfl
 ·rw [hd]
  refine hr.put (QS hn) (.tup _ _ rfl fun j x v hx hv=>?_)
  cases j with
  | zero=>simp at hx hv;subst hx;subst hv;exact .dat (.b _)
  | succ j=>simp at hx
theorem Stp.entry {d b m bm clock:Nat}{x:Operand}{L:List (MapEntry×(V×V))}{l:List (V×V)}{seen:Array Nat}{q:MapEntry×(V×V)}(ho:o.op=.entry x)(hd:o.dst=some d)(hn:Nat.ble (d+1) C.n=true)(hx:σ.opd x=some (.loc b 0 0))
  (hb:look σ.hp b=some (.itr bm clock seen (some q.1))) (hm:look σ.hp m=some (.mapX bm clock L l)) (hq:q∈L):Stp P C o σ (σ.put d (.tup [q.2.1,q.2.2])):=by
 refine Stp.same hd hn fun φ a w hr=>?_
 obtain⟨B,hB,hev⟩:=(hr.opd hx).loc_inv
 obtain⟨h1,h0,h2⟩:=hr.block hB hb
 obtain⟨s0,rfl⟩:=h2 _ rfl
 rcases hr.heap m _ hm with⟨M,hM,g1,g2,g3,g4,g5,g6⟩|⟨_,z,e'⟩
 ·refine⟨.tuple #[q.1.key,q.1.val],?_,.tup _ _ rfl fun j x v hx hv=>?_⟩
  ·simp only [Nat.zero_mul,Nat.add_zero,h0]at hev
   subst g1
   have he:=run_entry_at (P:=P) w B.b M.b clock s0 _ clock q.1 h1 g2 (by simpa using (⟨q.2.1,q.2.2,hq⟩:∃a b,(q.1,a,b)∈L)) g3.2.1
   simp only [execOp,ho,hev,Sem.run_bind,he,Result.andThen_ok,Sem.run_pure]
  ·cases j with
   | zero=>simp at hx hv;subst hx;subst hv;exact .dat (g6 q hq).1
   | succ j=>
    cases j with
    | zero=>simp at hx hv;subst hx;subst hv;exact .dat (g6 q hq).2
    | succ j=>simp at hx
 ·cases e'
theorem AK.next {d b m bm clock:Nat}{x:Operand}{ops:Array Oper}{rest:List Oper}{L:List (MapEntry×(V×V))}{l:List (V×V)}{seen:Array Nat}{cur:Option MapEntry}(hg:o.guard=none)(ho:o.op=.next x false)(hd:o.dst=some d)(hn:Nat.ble (d+1) C.n=true)
  (hx:σ.opd x=some (.loc b 0 0)) (hb:look σ.hp b=some (.itr bm clock seen cur)) (hm:look σ.hp m=some (.mapX bm clock L l)) (hbm:Nat.beq b m=false)
  (hdone:QaM L seen=[]→AK P C Q (.o ops rest) ks (σ.put d (.tup [.b false])))
  (hpick:∀q∈QaM L seen,AK P C Q (.o ops rest) ks ((σ.set b (.itr bm clock (seen.push q.1.born) (some q.1))).put d (.tup [.b true,.J,.J]))):AK P C Q (.o ops (o::rest)) ks σ:=by
 intro a w ⟨φ,hr⟩
 simp only [wpListIn,Region.wanted,hg,if_true]
 obtain⟨B,hB,hev⟩:=(hr.opd hx).loc_inv
 obtain⟨h1,h0,h2⟩:=hr.block hB hb
 simp only [Nat.zero_mul,Nat.add_zero,h0]at hev
 rcases hr.heap m _ hm with⟨M,hM,g1,g2,g3,g4,g5,g6⟩|⟨_,z,e'⟩
 ·subst g1
  refine⟨fun _ _=>trivial,?_⟩
  rw [Oper.semAt_eq _ _ _ (by rw [ho];intro c hc;cases hc)]
  have hold:∀y∈(L.map Prod.fst).toArray.toList,y.born<clock:=g3.1
  rcases run_next_at (P:=P) w o.type B.b M.b clock clock seen _ clock h1 g2 hold (Nat.le_refl _)with⟨k1,k2⟩|⟨e,k1,w1,k2,k3⟩
  ·simp only [execOp,ho,hev,Sem.run_bind,k2,Result.andThen_ok,Sem.run_pure]
   rw [Oper.uponIn_value]
   refine hdone ?_ _ _ ⟨φ,?_⟩
   ·have:(leftOf (L.map Prod.fst).toArray seen).toList=(QaM L seen).map Prod.fst:=by
     simp only [leftOf,Array.toList_filter,QaM,List.filter_map];rfl
    have h3:((QaM L seen).map Prod.fst).length=0:=by rw [←this];simpa using k1
    simpa using h3
   ·rw [hd]
    refine hr.put (QS hn) (.tup _ _ rfl fun j x v hx hv=>?_)
    cases j with
    | zero=>simp at hx hv;subst hx;subst hv;exact .dat (.b _)
    | succ j=>simp at hx
  ·simp only [execOp,ho,hev,Sem.run_bind,k3,Result.andThen_ok,Sem.run_pure]
   rw [Oper.uponIn_value]
   have hleft:(leftOf (L.map Prod.fst).toArray seen).toList=(QaM L seen).map Prod.fst:=by
    simp only [leftOf,Array.toList_filter,QaM,List.filter_map];rfl
   rw [hleft]at k1
   obtain⟨q,hq,rfl⟩:=List.mem_map.1 k1
   refine hpick q hq _ _ ?_
   have hr1:RR C φ σ a w1:=by
    rcases k2 with rfl | rfl
    ·exact hr
    ·exact hr.step rfl rfl rfl (Nat.le_refl _) (fun _ _=>rfl)
   have hheap:w1.heap=w.heap:=by rcases k2 with rfl | rfl<;>rfl
   have hlt:=(hr1.lt b B B.b hB B.self).1
   have h4:RR C φ (σ.set b (.itr M.b clock (seen.push q.1.born) (some q.1))) a (Go.ChangeMaps.setBlock w1 B.b (.mapIter (some M.b) clock (seen.push q.1.born) clock)):=by
    refine hr1.write hB (by rfl) (by rfl) (by rfl) ?_ ?_ ?_
    ·simp [Go.ChangeMaps.setBlock]
    ·intro k hk
     simp only [Go.ChangeMaps.setBlock]
     exact Qhs _ (fun e=>hk e)
    ·refine⟨?_,h0,fun x e=>?_⟩
     ·simp [Go.ChangeMaps.setBlock,Array.getElem?_setIfInBounds,hlt]
     ·cases e;exact⟨seen,rfl⟩
   refine⟨φ,?_⟩
   rw [hd]
   refine h4.put (QS hn) (.tup _ _ rfl fun j x v hx hv=>?_)
   cases j with
   | zero=>simp at hx hv;subst hx;subst hv;exact .dat (.b _)
   | succ j=>
    cases j with
    | zero=>simp at hx hv;subst hv;exact .dat (.J _)
    | succ j=>
     cases j with
     | zero=>simp at hx hv;subst hv;exact .dat (.J _)
     | succ j=>simp at hx
 ·cases e'
theorem Qrt {κ α:Type}{e:κ→V}{f:α→V}{L:List (MapEntry×(κ×α))}{seen:Array Nat}:QaM (typV e f L) seen=typV e f (QaM L seen):=by
 simp only [QaM,typV,List.filter_map];rfl
theorem AK.nextT {d b m bm clock:Nat}{x:Operand}{ops:Array Oper}{rest:List Oper}{κ α:Type}{e:κ→V}{f:α→V}{L:List (MapEntry×(κ×α))}{l:List (V×V)}{seen:Array Nat}{cur:Option MapEntry}(hg:o.guard=none)(ho:o.op=.next x false)(hd:o.dst=some d)
  (hn:Nat.ble (d+1) C.n=true) (hx:σ.opd x=some (.loc b 0 0)) (hb:look σ.hp b=some (.itr bm clock seen cur)) (hm:look σ.hp m=some (.mapX bm clock (typV e f L) l)) (hbm:Nat.beq b m=false)
  (hdone:QaM L seen=[]→AK P C Q (.o ops rest) ks (σ.put d (.tup [.b false])))
  (hpick:∀x k v,(x,(k,v))∈QaM L seen→AK P C Q (.o ops rest) ks ((σ.set b (.itr bm clock (seen.push x.born) (some x))).put d (.tup [.b true,.J,.J]))):AK P C Q (.o ops (o::rest)) ks σ:=by
 refine AK.next hg ho hd hn hx hb hm hbm (fun h=>hdone ?_) (fun q hq=>?_)
 ·rw [Qrt]at h;simpa [typV] using h
 ·rw [Qrt]at hq
  obtain⟨q',hq',rfl⟩:=List.mem_map.1 hq
  exact hpick q'.1 q'.2.1 q'.2.2 hq'
theorem Stp.entryT {d b m bm clock:Nat}{x:Operand}{κ α:Type}{e:κ→V}{f:α→V}{L:List (MapEntry×(κ×α))}{l:List (V×V)}{seen:Array Nat}{y:MapEntry}{k:κ}{v:α}(ho:o.op=.entry x)(hd:o.dst=some d)(hn:Nat.ble (d+1) C.n=true)(hx:σ.opd x=some (.loc b 0 0))
  {s0:Array Nat} (hq:(y,(k,v))∈QaM L s0) (hb:look σ.hp b=some (.itr bm clock seen (some y))) (hm:look σ.hp m=some (.mapX bm clock (typV e f L) l)):Stp P C o σ (σ.put d (.tup [e k,f v])):=
 Stp.entry (q:=(y,(e k,f v))) ho hd hn hx hb hm (List.mem_map.2 ⟨(y,(k,v)),(List.mem_filter.1 hq).1,rfl⟩)
theorem AK.loopOnce {c:Code}(h:AK P C Q (.c c) (.cut (fun _=>False)::ks) σ):AK P C Q (.c (.loop c)) ks σ:=by
 intro a w hR
 refine wpIn_loop_rounds 1 ?_
 rw [roundsIn_succ]
 refine wpIn_mono (h a w hR) ?_
 rintro e a' w' ⟨σ',h1,h2⟩
 cases e<;>first | exact h1.elim | exact⟨σ',h1,h2⟩
def rngQ {τ ρ π:Type}(body:τ→π→Option (τ⊕ρ))(L:List (MapEntry×π))(E:τ→Array Nat→St→Prop)(Post:ρ→Exit→St→Prop)(PD:τ→Exit→St→Prop)(s:τ)(seen:Array Nat):Exit→St→Prop:=fun e σ'=>
 (QaM L seen=[]∧e≠.normal∧PD s e σ')∨∃q∈QaM L seen,(∃s',body s q.2=some (.inl s')∧e=.normal∧E s' (seen.push q.1.born) σ')∨(∃r,body s q.2=some (.inr r)∧e≠.normal∧Post r e σ')
theorem AK.range {τ ρ π:Type}{body:τ→π→Option (τ⊕ρ)}{c:Code}{lt:List π}{L:List (MapEntry×π)}(E:τ→Array Nat→St→Prop)(Post:ρ→Exit→St→Prop)(PD:τ→Exit→St→Prop){s0:τ}{r:τ⊕ρ}(hn:(L.map (·.1.born)).Nodup)(hp:(L.map Prod.snd).Perm lt)
  (hr:Qg9 body s0 lt=some r) (h0:E s0 #[] σ)
  (round:∀s seen σ,E s seen σ→(∀q∈QaM L seen,∃o,body s q.2=some o)→AK P C (rngQ body L E Post PD s seen) (.c c) [] σ)
  (hQ:∀e σ',(Sum.elim (fun s=>PD s e σ') (fun q=>Post q e σ') r)→AK P C Q (.x e) ks σ'):AK P C Q (.c (.loop c)) ks σ:=by
 obtain⟨hperm,hrun⟩:=Qii.1 hr
 have key:∀(k:Nat) (s:τ) (seen:Array Nat),(QaM L seen).length=k→(∃dn,(dn++(QaM L seen).map Prod.snd).Perm lt∧runL body s0 dn=some (.inl s))→∀σ a w,E s seen σ→R C σ a w→
   Code.roundsIn C.F 0 P c (up C fun e σ'=>Sum.elim (fun s=>PD s e σ') (fun q=>Post q e σ') r) (k+1) a w:=by
  intro k
  induction k with
  | zero=>
   rintro s seen hk ⟨dn,hd1,hd2⟩ σ a w hE hR
   have hnil:=List.length_eq_zero_iff.1 hk
   rw [roundsIn_succ]
   refine wpIn_mono (round s seen σ hE (fun q hq=>by rw [hnil]at hq;cases hq) a w hR) ?_
   rintro e a' w' ⟨σ',hq,hR'⟩
   rcases hq with⟨_,h2,h3⟩|⟨q,hq,_⟩
   ·rw [hnil]at hd1
    have:runL body s0 dn=some r:=by rw [←hrun];exact hperm dn (by simpa using hd1)
    rw [this]at hd2;cases hd2
    cases e<;>first | exact absurd rfl h2 | exact⟨σ',h3,hR'⟩
   ·rw [hnil]at hq;cases hq
  | succ k ih=>
   rintro s seen hk ⟨dn,hd1,hd2⟩ σ a w hE hR
   rw [roundsIn_succ]
   have hall:∀q∈QaM L seen,∃o,body s q.2=some o∧∃rest,(dn++q.2::rest).Perm lt∧rest=(QaM L (seen.push q.1.born)).map Prod.snd:=fun q hq=>by
    have h1:=(Qng hn hq).map Prod.snd
    have h2:(dn++q.2::(QaM L (seen.push q.1.born)).map Prod.snd).Perm lt:=((List.Perm.append_left dn h1).symm).trans hd1
    have h3:runL body s0 (dn++q.2::(QaM L (seen.push q.1.born)).map Prod.snd)=some r:=by rw [←hrun];exact hperm _ h2
    rw [Qmt,hd2]at h3
    simp only [Option.bind_some,Sum.elim_inl,runL]at h3
    cases hb:body s q.2 with
    | none=>rw [hb]at h3;cases h3
    | some o=>exact⟨o,rfl,_,h2,rfl⟩
   refine wpIn_mono (round s seen σ hE (fun q hq=>let ⟨o,h,_⟩:=hall q hq;⟨o,h⟩) a w hR) ?_
   rintro e a' w' ⟨σ',hq,hR'⟩
   rcases hq with⟨h1,_,_⟩|⟨q,hq,⟨s',h1,rfl,h3⟩|⟨r',h1,h2,h3⟩⟩
   ·rw [h1]at hk;cases hk
   ·obtain⟨_,_,rest,h5,h6⟩:=hall q hq
    refine ih s' (seen.push q.1.born) ?_ ⟨dn++[q.2],?_,?_⟩ σ' a' w' h3 hR'
    ·have:=(Qng hn hq).length_eq;simp at this;omega
    ·rw [List.append_assoc,List.singleton_append,←h6];exact h5
    ·rw [Qmt,hd2];simp only [Option.bind_some,Sum.elim_inl,runL,h1]
   ·obtain⟨_,_,rest,h5,h6⟩:=hall q hq
    have h7:runL body s0 (dn++q.2::rest)=some r:=by rw [←hrun];exact hperm _ h5
    rw [Qmt,hd2]at h7
    simp only [Option.bind_some,Sum.elim_inl,runL,h1,Sum.elim_inr]at h7
    cases h7
    cases e<;>first | exact absurd rfl h2 | exact⟨σ',h3,hR'⟩
 intro a w hR
 have hL:QaM L #[]=L:=by simp [QaM]
 refine wpIn_mono (wpIn_loop_rounds _ (key _ s0 #[] rfl ⟨[],by rw [hL];simpa using hp,rfl⟩ σ a w h0 hR)) ?_
 rintro e a' w' ⟨σ',h1,h2⟩
 exact hQ e σ' h1 a' w' h2
end
end Go.Vm
