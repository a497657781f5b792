/- A part of the proof; what it holds is told at each theorem. -/
import Derived.Test.YtmhljalpjhdpeaaGreatDoorM1V2
import Derived.Laws.StructEq
import Derived.Laws.Cover3
import Derived.RangeFuncIn
import Derived.Shelf.Sort.Plain
import Derived.Shelf.Slices.In.SortNone
import Derived.Laws.BytesString
import Derived.Shelf.Slices.CompactI
import Derived.Shelf.Strings.Fields
import Derived.Carry
import Derived.ReadAgain
import Derived.OpenShut
import GoSem.ClaimJoined
import Derived.Lib.LaidTab
import Derived.LaidMore
import Derived.MakeChecks
import Derived.Stop.LaidErr
import Derived.Stop.Joined
import Derived.SizedLaws
import Derived.Handed
import Derived.Shelf.Spec.SlicesInsertGrow
set_option linter.unusedVariables false
set_option linter.unusedSimpArgs false
set_option linter.unusedSectionVars false
set_option linter.deprecated false
namespace Go.Vm
open Go Go.RowKit
structure Mut where
 kills:List Nat
 sets:List (Nat×Ob)
 put:Option (Nat×V)
def St.sets (σ:St):List (Nat×Ob)->St
 | []=>σ
 | (o,ob)::r=>(σ.sets r).set o ob
def Mut.run (M:Mut)(σ:St):St:=match M.put with
 | none=>(σ.killL M.kills).sets M.sets
 | some (d,v)=>((σ.killL M.kills).sets M.sets).put d v
def Sub (σ B:St):Prop:=(∀t v,look B.fr t=some v->look σ.fr t=some v)/\∀p ob,look B.hp p=some ob->look σ.hp p=some ob
theorem Qm0 {b:Nat}:∀(l:List (Nat×V)) (t:Nat),look (Qiv b l) t=(look l t).map (V.kill b):=by
 intro l
 induction l with
 | nil=>intro t;rfl
 | cons p l ih=>
  obtain⟨k,v⟩:=p
  intro t
  by_cases e:k=t
  ·subst e;rw [Qiv,Qv,Qv];rfl
  rw [Qiv,Qr _ _ e,Qr _ _ e];exact ih t
theorem Qkf {b:Nat}:∀(l:List (Nat×Ob)) (t:Nat),look (Qfk b l) t=if t=b then none else(look l t).map (Ob.kill b):=by
 intro l t
 by_cases h:t=b
 ·rw [if_pos h]
  cases hl:look (Qfk b l) t with
  | none=>rfl
  | some ob=>obtain⟨h1,_⟩:=QcS _ _ _ hl;exact absurd h h1
 rw [if_neg h]
 cases hl:look l t with
 | none=>
  cases hk:look (Qfk b l) t with
  | none=>rfl
  | some ob=>obtain⟨_,ob',h1,_⟩:=QcS _ _ _ hk;rw [hl]at h1;cases h1
 | some ob=>exact QfT _ _ _ h hl
theorem Sub.kill {σ B:St}(h:Sub σ B)(b:Nat):Sub (σ.kill b) (B.kill b):=by
 refine⟨fun t v hv=>?_,fun p ob hob=>?_⟩
 ·have hv:look (Qiv b B.fr) t=some v:=hv
  show look (Qiv b σ.fr) t=some v
  rw [Qm0]at hv ⊢
  obtain⟨u,hu,rfl⟩:=Qas.1 hv
  rw [h.1 t u hu];rfl
 have hob:look (Qfk b B.hp) p=some ob:=hob
 show look (Qfk b σ.hp) p=some ob
 rw [Qkf]at hob ⊢
 split at hob
 ·cases hob
 rename_i hne
 rw [if_neg hne]
 obtain⟨u,hu,rfl⟩:=Qas.1 hob
 rw [h.2 p u hu];rfl
theorem Sub.killL : ∀{l:List Nat} {σ B:St},Sub σ B->Sub (σ.killL l) (B.killL l):=by
 intro l
 induction l with
 | nil=>intro σ B h;exact h
 | cons b l ih=>intro σ B h;exact ih (h.kill b)
theorem Sub.set {σ B:St}(h:Sub σ B)(o:Nat)(ob:Ob):Sub (σ.set o ob) (B.set o ob):=by
 refine⟨h.1,fun p u hu=>?_⟩
 by_cases e:p=o
 ·subst e;rw [St.look_set_same]at hu ⊢;exact hu
 rw [St.look_set_other _ _ (Ne.symm e)]at hu ⊢;exact h.2 p u hu
theorem Sub.sets : ∀{l:List (Nat×Ob)} {σ B:St},Sub σ B->Sub (σ.sets l) (B.sets l):=by
 intro l
 induction l with
 | nil=>intro σ B h;exact h
 | cons p l ih=>intro σ B h;exact(ih h).set p.1 p.2
theorem Sub.put {σ B:St}(h:Sub σ B)(d:Nat)(v:V):Sub (σ.put d v) (B.put d v):=by
 refine⟨fun t u hu=>?_,h.2⟩
 have hu:look ((d,v)::B.fr) t=some u:=hu
 show look ((d,v)::σ.fr) t=some u
 by_cases e:d=t
 ·subst e;rw [Qv]at hu ⊢;exact hu
 rw [Qr _ _ e]at hu ⊢;exact h.1 t u hu
theorem Sub.run {σ B:St}(h:Sub σ B)(M:Mut):Sub (M.run σ) (M.run B):=by
 unfold Mut.run
 split
 ·exact h.killL.sets
 exact h.killL.sets.put _ _
def Mut.keeps (M:Mut)(t:Nat)(v:V):Bool:=M.kills.all (fun b=>v.free b)&&(match M.put with | none=>true | some (d,_)=>!(Nat.beq d t))
def Mut.keepsO (M:Mut)(p:Nat):Bool:=M.kills.all (fun b=>!(Nat.beq b p))&&M.sets.all (fun q=>!(Nat.beq q.1 p))
def Ob.keep1 (b:Nat):Ob->Bool
 | .var cs=>cs.all (V.freeC b)
 | .lp _ _ cs _=>cs.all (V.freeC b)
 | _=>true
theorem QAh : ∀{l:List Nat} {σ:St} {t:Nat} {v:V},l.all (fun b=>v.free b)=true->look σ.fr t=some v->look (σ.killL l).fr t=some v:=by
 intro l
 induction l with
 | nil=>intro σ t v _ h;exact h
 | cons b l ih=>
  intro σ t v hl h
  rw [Qng,QB]at hl
  refine ih hl.2 ?_
  show look (Qiv b σ.fr) t=some v
  rw [Qm0,h,Qfu,V.kill,hl.1];rfl
theorem Qxx : ∀{l:List (Nat×Ob)} {σ:St},(σ.sets l).fr=σ.fr:=by
 intro l
 induction l with
 | nil=>intro σ;rfl
 | cons p l ih=>intro σ;exact ih
theorem Mut.keeps_look {M:Mut}{σ:St}{t:Nat}{v:V}(hk:M.keeps t v=true)(h:look σ.fr t=some v):look (M.run σ).fr t=some v:=by
 unfold Mut.keeps at hk
 rw [QB]at hk
 have h1:look ((σ.killL M.kills).sets M.sets).fr t=some v:=by rw [Qxx];exact QAh hk.1 h
 unfold Mut.run
 split
 ·exact h1
 rename_i d u hp
 rw [hp]at hk
 have hne:d≠t:=QhQ hk.2
 show look ((d,u)::_) t=some v
 rw [Qr _ _ hne];exact h1
theorem Qxy : ∀{l:List Nat} {σ:St} {p:Nat},look σ.hp p=none->look (σ.killL l).hp p=none:=by
 intro l
 induction l with
 | nil=>intro σ p h;exact h
 | cons b l ih=>
  intro σ p h
  refine ih ?_
  show look (Qfk b σ.hp) p=none
  rw [Qkf,h];simp
theorem Qy2 : ∀{l:List (Nat×Ob)} {σ:St} {p:Nat},l.all (fun q=>!(Nat.beq q.1 p))=true->look σ.hp p=none->look (σ.sets l).hp p=none:=by
 intro l
 induction l with
 | nil=>intro σ p _ h;exact h
 | cons q l ih=>
  intro σ p hl h
  rw [Qng,QB]at hl
  show look ((σ.sets l).set q.1 q.2).hp p=none
  rw [St.look_set_other _ _ (QhQ hl.1)];exact ih hl.2 h
theorem Mut.none_look {M:Mut}{σ:St}{p:Nat}(hk:M.sets.all (fun q=>!(Nat.beq q.1 p))=true)(h:look σ.hp p=none):look (M.run σ).hp p=none:=by
 have h1:look ((σ.killL M.kills).sets M.sets).hp p=none:=Qy2 hk (Qxy h)
 unfold Mut.run
 split<;>exact h1
theorem Ob.kill_keep {ob:Ob}{b:Nat}(h:ob.keep1 b=true):ob.kill b=ob:=by
 cases ob with
 | var cs=>
  simp only [Ob.keep1,Qad]at h
  simp only [Ob.kill,Ob.var.injEq]
  conv=>rhs;rw [<-List.map_id cs]
  apply List.map_congr_left
  intro v hv
  simp only [V.killC,h v hv,cond_true,id]
 | lp l K cs q=>
  simp only [Ob.keep1,Qad]at h
  simp only [Ob.kill,Ob.lp.injEq,true_and,and_true]
  conv=>rhs;rw [<-List.map_id cs]
  apply List.map_congr_left
  intro v hv
  simp only [V.killC,h v hv,cond_true,id]
 | _=>rfl
theorem Qyt : ∀{l:List Nat} {σ:St} {p:Nat} {ob:Ob},l.all (fun b=>!(Nat.beq b p))=true->l.all (fun b=>ob.keep1 b)=true->look σ.hp p=some ob->look (σ.killL l).hp p=some ob:=by
 intro l
 induction l with
 | nil=>intro σ p ob _ _ h;exact h
 | cons b l ih=>
  intro σ p ob hl hp h
  rw [Qng,QB]at hl hp
  refine ih hl.2 hp.2 ?_
  show look (Qfk b σ.hp) p=some ob
  rw [Qkf,if_neg (QhQ hl.1).symm,h,Qfu,Ob.kill_keep hp.1]
theorem Qy3 : ∀{l:List (Nat×Ob)} {σ:St} {p:Nat} {ob:Ob},l.all (fun q=>!(Nat.beq q.1 p))=true->look σ.hp p=some ob->look (σ.sets l).hp p=some ob:=by
 intro l
 induction l with
 | nil=>intro σ p ob _ h;exact h
 | cons q l ih=>
  intro σ p ob hl h
  rw [Qng,QB]at hl
  show look ((σ.sets l).set q.1 q.2).hp p=some ob
  rw [St.look_set_other _ _ (QhQ hl.1)];exact ih hl.2 h
theorem Mut.keepsO_look {M:Mut}{σ:St}{p:Nat}{ob:Ob}(hk:M.keepsO p=true)(hp:M.kills.all (fun b=>ob.keep1 b)=true)(h:look σ.hp p=some ob):look (M.run σ).hp p=some ob:=by
 unfold Mut.keepsO at hk
 rw [QB]at hk
 have h1:look ((σ.killL M.kills).sets M.sets).hp p=some ob:=Qy3 hk.2 (Qyt hk.1 hp h)
 unfold Mut.run
 split<;>exact h1
section
variable {P:Program}{C:Ctx}{Q:Exit->St->Prop}{ops:Array Oper}{σ:St}{ks:List Fr}
theorem QA6 (Inv:Array Bool->St->Prop)
  (step:∀listed σ i o,listed.size=ops.size->QtI ops listed->i∈Region.ready .any ops listed->ops[i]? = some o->Inv listed σ->∃σ',QbO P C ops o σ σ'/\Inv (listed.setIfInBounds i true) σ')
  (hord:Qxt ops=true) (hend:∀listed σ,listed.size=ops.size->(∀i,i<ops.size->listed[i]? = some true)->Inv listed σ->∀a w,R C σ a w->up C Q .normal a w):
  ∀(fuel:Nat) (listed:Array Bool) (a:Act) (w:World) (σ:St),((List.range ops.size).filter fun i=>!(listed[i]? == some true)).length<=fuel->listed.size=ops.size->QtI ops listed->Inv listed σ->R C σ a w->wpAnyIn C.F 0 P .any ops (up C Q) fuel listed a w:=by
 intro fuel
 have allOf:∀{listed:Array Bool},listed.size=ops.size->Region.ready .any ops listed=[]->∀i,i<ops.size->listed[i]? = some true:=by
  intro listed hs hr
  apply Classical.byContradiction
  intro h
  have hex:∃i,i<ops.size/\listed[i]? ≠ some true:=by
   apply Classical.byContradiction
   intro h'
   exact h fun i hi=>Classical.byContradiction fun hn=>h' ⟨i,hi,hn⟩
  obtain⟨k,h1,h2,h3⟩:=QyP ops.size hex
  have:=Qzy hord hs h1 h2 h3
  rw [hr]at this;cases this
 induction fuel with
 | zero=>
  intro listed a w σ hf hs hd hI hR
  have hall:∀i,i<ops.size->listed[i]? = some true:=fun i hi=>by
   have:=Qmb.1 (Nat.le_zero.1 hf)
   rw [List.filter_eq_nil_iff]at this
   simpa using this i (Qi1.2 hi)
  refine⟨?_,hend listed σ hs hall hI a w hR⟩
  rw [List.eq_nil_iff_forall_not_mem]
  intro i hi
  obtain⟨o,ho,hl,_⟩:=(Ql3 hs).1 hi
  rw [hall i (Qhr.1 ho).1]at hl;cases hl
 | succ fuel ih=>
  intro listed a w σ hf hs hd hI hR
  refine⟨fun hr=>hend listed σ hs (allOf hs hr) hI a w hR,fun i hi=>?_⟩
  obtain⟨o,ho,hl,hdeps⟩:=(Ql3 hs).1 hi
  obtain⟨σ',hos,hI'⟩:=step listed σ i o hs hd hi ho hI
  have hin:i<listed.size:=by rw [hs];exact(Qhr.1 ho).1
  have next:∀a' w',R C σ' a' w'->wpAnyIn C.F 0 P .any ops (up C Q) fuel (listed.setIfInBounds i true) a' w':=fun a' w' hR'=>by
   refine ih _ a' w' σ' ?_ (by simpa using hs) (hd.set hs hi) hI' hR'
   have count:∀(l:List Nat),i∈l->(l.filter fun j=>!((listed.setIfInBounds i true)[j]? == some true)).length+1<=(l.filter fun j=>!(listed[j]? == some true)).length:=by
    intro l
    have le:∀(l:List Nat),(l.filter fun j=>!((listed.setIfInBounds i true)[j]? == some true)).length<=(l.filter fun j=>!(listed[j]? == some true)).length:=by
     intro l
     induction l with
     | nil=>simp
     | cons x l ihl=>
      by_cases e:i=x
      ·subst e
       rw [List.filter_cons_of_neg (by simp [Qq4,hin]),List.filter_cons_of_pos (by rw [hl];simp)]
       simp;omega
      simp only [Qlk,QyL e]
      split
      ·simpa using ihl
      exact ihl
    induction l with
    | nil=>intro h;cases h
    | cons x l ihl=>
     intro hm
     by_cases e:i=x
     ·subst e
      rw [List.filter_cons_of_neg (by simp [Qq4,hin]),List.filter_cons_of_pos (by rw [hl];simp)]
      have:=le l
      simp;omega
     have hm':i∈l:=by
      rcases QaK.1 hm with h | h
      ·exact absurd h e
      exact h
     have:=ihl hm'
     simp only [Qlk,QyL e]
     split
     ·simpa using this
     exact this
   have:=count (List.range ops.size) (Qi1.2 (by rw [<-hs];exact hin))
   omega
  unfold wpOpIn
  simp only [ho]
  have:=hos a w hR (wpAnyIn C.F 0 P .any ops (up C Q) fuel (listed.setIfInBounds i true)) (up C Q) next
  split
  ·rename_i hw;rw [if_pos hw]at this;exact this
  rename_i hw;rw [if_neg hw]at this;exact⟨fun _ _=>trivial,this⟩
theorem AK.regionInv {id:Nat}(Inv:Array Bool->St->Prop)(hmix:P.follows .mixedOrders=true)
  (step:∀listed σ i o,listed.size=ops.size->QtI ops listed->i∈Region.ready .any ops listed->ops[i]? = some o->Inv listed σ->∃σ',QbO P C ops o σ σ'/\Inv (listed.setIfInBounds i true) σ')
  (hord:Qxt ops=true) (h0:Inv (Array.replicate ops.size false) σ) (hend:∀listed σ',listed.size=ops.size->(∀i,i<ops.size->listed[i]? = some true)->Inv listed σ'->AK P C Q (.x .normal) ks σ'):AK P C Q (.c (.region id ops true)) ks σ:=by
 intro a w hR
 refine wpIn_region_any hmix ?_
 have hR':R C σ a { w with drawn:=w.drawn+1 }:=by
  obtain⟨φ,hr⟩:=hR
  exact⟨φ,hr.step rfl rfl rfl (Qb2 _) (fun _ _=>rfl)⟩
 refine QA6 Inv step hord (fun listed σ' hs hall hI a w hR=>hend listed σ' hs hall hI a w hR) ops.size (Array.replicate ops.size false) a _ σ ?_ (by simp) ?_ h0 hR'
 ·exact QbM (Qwu _ _) (by simp)
 intro i o _ h
 simp [Array.getElem?_replicate]at h
end
inductive It where
 | add (x:DF) (fl nf:Bool)
 | tn (M:Mut)
def QU : List It->List Mut
 | []=>[]
 | .add _ _ _::r=>QU r
 | .tn M::r=>M::QU r
def bof (base:St):List Mut->St
 | []=>base
 | M::r=>bof (M.run base) r
def QyI (x:DF)(M:Mut):Bool:=match x.ob with | none=>true | some ob=>M.keepsO x.d&&M.kills.all (fun b=>ob.keep1 b)
def QyJ (x:DF)(M:Mut):Bool:=M.keeps x.d x.v&&QyI x M
def alv (x:DF)(fl:Bool)(ms:List Mut):Bool:=ms.all (fun M=>M.keeps x.d x.v)
def Qrc (x:DF)(fl:Bool)(ms:List Mut):Bool:=ms.all (QyI x)
def Qml (σ:St)(x:DF)(fl:Bool)(ms:List Mut):Prop:=(alv x fl ms=true->look σ.fr x.d=some x.v)/\(Qrc x fl ms=true->∀ob,x.ob=some ob->look σ.hp x.d=some ob)
def Qha (ops:Array Oper):Nat->Nat->Nat->Bool
 | 0,_,_=>false
 | n+1,i,k=>match ops[k]? with
  | some o=>QkS o i||o.after.toList.any fun e=>Region.binds .any e&&Qha ops n i e.on
  | none=>false
def Qst (its:List It)(p:Nat):Bool:=match its[p]? with
 | some (.tn _)=>true
 | _=>false
def QB7 (ops:Array Oper)(its:List It):Bool:=(List.range its.length).all fun i=>(List.range its.length).all fun p=>!(Qst its p)||Nat.beq p i ||
 (match its[i]? with | some (.add _ true false)=>true | some _=>bif Nat.ble (p+1) i then Qha ops 8 p i else Qha ops 8 i p | none=>true)
def Qpe : List It->List Nat
 | []=>[]
 | .add x _ _::r=>x.d::Qpe r
 | .tn _::r=>Qpe r
def QjO : List Mut->List Nat
 | []=>[]
 | M::r=>match M.put with
  | some (d,_)=>d::QjO r
  | none=>QjO r
def Qy4 : List Mut->List Nat
 | []=>[]
 | M::r=>M.sets.map Prod.fst++Qy4 r
def Qsu : List It->List Nat
 | []=>[]
 | .add x _ _::r=>match x.ob with
  | some _=>x.d::Qsu r
  | none=>Qsu r
 | .tn _::r=>Qsu r
def QjP (ms:List Mut):List It->Bool
 | []=>true
 | .add x fl _::r=>(!fl||ms.all (QyJ x))&&QjP ms r
 | .tn _::r=>QjP ms r
def QtT (ms:List Mut)(S:St):Bool:=S.fr.all (fun p=>ms.all fun M=>M.keeps p.1 p.2)&&S.hp.all (fun p=>ms.all fun M=>M.keepsO p.1&&M.kills.all (fun b=>p.2.keep1 b))
def Qy5 (base:St)(its:List It):Bool:=QeY (Qpe its)&&(Qpe its).all (fun d=>!(Qab (keys base.fr) d)&&!(Qab (QjO (QU its)) d)) &&
 (Qsu its).all (fun d=>!(Qab (keys base.hp) d))
def QAi (ops:Array Oper)(its:List It):Bool:=(List.range its.length).all fun i=>(List.range its.length).all fun p=>match its[i]? with
 | some (.add x _ _)=>match its[p]? with
  | some (.tn M)=>x.ob.isNone||!(Qab (M.sets.map Prod.fst) x.d)||Qha ops 8 i p
  | _=>true
 | _=>true
section
variable {P:Program}{C:Ctx}{Q:Exit->St->Prop}{ops:Array Oper}{ks:List Fr}{base S:St}{its:List It}
def j0 (its:List It)(k:Nat):Nat:=(QU (its.take k)).length
def Qru (P:Program)(C:Ctx)(ops:Array Oper)(base S:St)(its:List It)(i:Nat)(o:Oper):It->Prop
 | .add x fl nf=>match fl&&!nf with
  | false=>∀σ,Sub σ (bof base ((QU its).take (j0 its i)))->(∀k y fl nf,its[k]? = some (.add y fl nf)->QkS o k=true->Qml σ y fl (((QU its).take (j0 its i)).drop (j0 its k)))->(x.ob.isSome=true->look σ.hp x.d=none)->QbO P C ops o σ (σ.addF x)
  | true=>∀σ,Sub σ S->(∀k y nf,its[k]? = some (.add y true nf)->QkS o k=true->Qsk σ y)->(x.ob.isSome=true->look σ.hp x.d=none)->QbO P C ops o σ (σ.addF x)
 | .tn M=>∀σ,Sub σ (bof base ((QU its).take (j0 its i)))->(∀k y fl nf,its[k]? = some (.add y fl nf)->QkS o k=true->Qml σ y fl (((QU its).take (j0 its i)).drop (j0 its k)))->QbO P C ops o σ (M.run σ)
theorem Qhu {listed:Array Bool}(hd:QtI ops listed):∀(n:Nat) {i k:Nat},Qha ops n i k=true->listed[k]? = some true->listed[i]? = some true:=by
 intro n
 induction n with
 | zero=>intro i k h;cases h
 | succ n ih=>
  intro i k h hk
  rw [Qha]at h
  split at h
  ·rename_i o ho
   rw [Qcs]at h
   rcases h with h | h
   ·simp only [QkS,Qma,QB]at h
    obtain⟨e,he,hb,hon⟩:=h
    have:=hd k o ho hk e (QvA.1 he) hb
    rwa [QaL hon]at this
   simp only [Qma,QB]at h
   obtain⟨e,he,hb,hm⟩:=h
   exact ih hm (hd k o ho hk e (QvA.1 he) hb)
  cases h
theorem Qvt {listed:Array Bool}(hs:listed.size=ops.size)(hd:QtI ops listed){n i k:Nat}(h:Qha ops n i k=true)(hk:k∈Region.ready .any ops listed):listed[i]? = some true:=by
 obtain⟨o,ho,hl,hdeps⟩:=(Ql3 hs).1 hk
 cases n with
 | zero=>cases h
 | succ n=>
  rw [Qha,ho]at h
  dsimp only at h
  rw [Qcs]at h
  rcases h with h | h
  ·simp only [QkS,Qma,QB]at h
   obtain⟨e,he,hb,hon⟩:=h
   have:=hdeps e (QvA.1 he) hb
   rwa [QaL hon]at this
  simp only [Qma,QB]at h
  obtain⟨e,he,hb,hm⟩:=h
  exact Qhu hd n hm (hdeps e (QvA.1 he) hb)
theorem Qgu : ∀{l m:List It},QU (l++m)=QU l++QU m:=by
 intro l
 induction l with
 | nil=>intro m;rfl
 | cons x l ih=>intro m;cases x<;>simp [QU,ih]
theorem QwG {ms ns:List Mut}:∀{B:St},bof B (ms++ns)=bof (bof B ms) ns:=by
 induction ms with
 | nil=>intro B;rfl
 | cons M ms ih=>intro B;exact ih
theorem QAj {its:List It}{i:Nat}{M:Mut}(h:its[i]? = some (.tn M)):(QU its)[j0 its i]? = some M/\(QU its).take (j0 its i+1)=(QU its).take (j0 its i)++[M]:=by
 have hlt:=(QT.1 h).1
 have e:its=its.take i++(.tn M::its.drop (i+1)):=by
  have:its.drop i=its[i]::its.drop (i+1):=Qnh hlt
  have h2:its[i]=.tn M:=by have:=QG hlt;rw [h]at this;exact(Option.some.inj this).symm
  rw [h2]at this
  rw [<-this,List.take_append_drop]
 have e2:QU its=QU (its.take i)++(M::QU (its.drop (i+1))):=by
  conv=>lhs;rw [e]
  rw [Qgu];rfl
 unfold j0
 rw [e2]
 refine⟨by simp,?_⟩
 rw [List.take_append,List.take_append]
 simp [QgB]
theorem QAk {σ:St}{x:DF}{M:Mut}(hk:QyJ x M=true)(h:Qsk σ x):Qsk (M.run σ) x:=by
 unfold QyJ QyI at hk
 rw [QB]at hk
 refine⟨Mut.keeps_look hk.1 h.1,fun ob hob=>?_⟩
 rw [hob]at hk
 have hk2:=hk.2
 dsimp only at hk2
 rw [QB]at hk2
 exact Mut.keepsO_look hk2.1 hk2.2 (h.2 ob hob)
theorem Qml.of {σ:St}{x:DF}{fl:Bool}{ms:List Mut}(h:Qsk σ x):Qml σ x fl ms:=⟨fun _=>h.1,fun _=>h.2⟩
theorem Qml.run {σ:St}{x:DF}{fl:Bool}{ms:List Mut}{M:Mut}(h:Qml σ x fl ms):Qml (M.run σ) x fl (ms++[M]):=by
 refine⟨fun hal=>?_,fun hal ob hob=>?_⟩
 ·simp only [alv,List.all_append,QB,Qng,List.all_nil,Bool.and_true]at hal
  exact Mut.keeps_look hal.2 (h.1 (by simp only [alv];exact hal.1))
 simp only [Qrc,List.all_append,QB,Qng,List.all_nil,Bool.and_true]at hal
 have h1:=h.2 (by simp only [Qrc];exact hal.1) ob hob
 have hk:=hal.2
 unfold QyI at hk
 rw [hob]at hk
 dsimp only at hk
 rw [QB]at hk
 exact Mut.keepsO_look hk.1 hk.2 h1
theorem QA7 {p:Nat}{M:Mut}(h:its[p]? = some (.tn M)):j0 its (p+1)=j0 its p+1:=by
 have hlt:=(QT.1 h).1
 unfold j0
 rw [QhW,h,Qgu];simp [QU]
theorem QwH : ∀{a b:Nat},a<=b->j0 its a<=j0 its b:=by
 intro a b h
 unfold j0
 obtain⟨c,rfl⟩:=Nat.exists_eq_add_of_le h
 rw [List.take_add,Qgu];simp
theorem QAl {p i:Nat}{M:Mut}(h:its[p]? = some (.tn M))(hpi:p<i):j0 its p<j0 its i:=by
 have:=QA7 h
 have:=QwH (its:=its) (show p+1<=i from hpi)
 omega
theorem QuO : ∀{its:List It} {c:Nat},c<(QU its).length->∃p M,its[p]? = some (.tn M)/\j0 its p=c:=by
 intro its
 induction its with
 | nil=>intro c h;simp [QU]at h
 | cons it its ih=>
  intro c h
  cases it with
  | add x fl=>
   obtain⟨p,M,h1,h2⟩:=ih (c:=c) h
   exact⟨p+1,M,by simpa using h1,by simpa [j0,QU] using h2⟩
  | tn M=>
   cases c with
   | zero=>exact⟨0,M,rfl,by simp [j0,QU]⟩
   | succ c=>
    obtain⟨p,M',h1,h2⟩:=ih (c:=c) (by simpa [QU] using h)
    exact⟨p+1,M',by simpa using h1,by simpa [j0,QU] using h2⟩
theorem Qy6 {p:Nat}{M:Mut}(h:its[p]? = some (.tn M)):j0 its p<(QU its).length:=(QT.1 (QAj h).1).1
theorem Sub.stable : ∀{ms:List Mut} {B S:St},QtT ms S=true->Sub B S->∀n,Sub (bof B (ms.take n)) S:=by
 intro ms
 induction ms with
 | nil=>intro B S _ h n;simpa [bof] using h
 | cons M ms ih=>
  intro B S hk h n
  cases n with
  | zero=>exact h
  | succ n=>
   unfold QtT at hk
   rw [QB,Qad,Qad]at hk
   refine ih (B:=M.run B) ?_ ⟨fun t v hv=>?_,fun p ob hob=>?_⟩ n
   ·unfold QtT
    rw [QB,Qad,Qad]
    exact⟨fun p hp=>by have:=hk.1 p hp;rw [Qng,QB]at this;exact this.2,fun p hp=>by have:=hk.2 p hp;rw [Qng,QB]at this;exact this.2⟩
   ·have:=hk.1 (t,v) (Qbi hv)
    rw [Qng,QB]at this
    exact Mut.keeps_look this.1 (h.1 t v hv)
   have:=hk.2 (p,ob) (Qbi hob)
   rw [Qng,QB,QB]at this
   exact Mut.keepsO_look this.1.1 this.1.2 (h.2 p ob hob)
theorem Qsv : ∀{its:List It} {i:Nat} {x:DF} {fl nf:Bool},its[i]? = some (.add x fl nf)->x.d∈Qpe its/\(x.ob.isSome=true->x.d∈Qsu its):=by
 intro its
 induction its with
 | nil=>intro i x fl nf h;simp at h
 | cons it its ih=>
  intro i x fl nf h
  cases i with
  | zero=>
   simp at h;subst h
   refine⟨Qbz,fun hs=>?_⟩
   rw [Qsu];split
   ·exact Qbz
   rename_i he;rw [he]at hs;cases hs
  | succ i=>
   obtain⟨a,b⟩:=ih (i:=i) (by simpa using h)
   cases it with
   | add y fl' nf'=>
    refine⟨Qb1 _ a,fun hs=>?_⟩
    rw [Qsu];split
    ·exact Qb1 _ (b hs)
    exact b hs
   | tn M=>exact⟨a,b⟩
theorem QvF : ∀{its:List It},(Qpe its).Nodup->∀{i k:Nat} {x y:DF} {fl fl' nf nf':Bool},its[i]? = some (.add x fl nf)->its[k]? = some (.add y fl' nf')->x.d=y.d->i=k:=by
 intro its
 induction its with
 | nil=>intro _ i k x y fl fl' nf nf' h;simp at h
 | cons it its ih=>
  intro hn i k x y fl fl' nf nf' hi hk e
  cases it with
  | tn M=>
   cases i with
   | zero=>simp at hi
   | succ i=>cases k with
    | zero=>simp at hk
    | succ k=>rw [ih hn (i:=i) (k:=k) (by simpa using hi) (by simpa using hk) e]
  | add z f g=>
   rw [Qpe,Qlp]at hn
   cases i with
   | zero=>
    cases k with
    | zero=>rfl
    | succ k=>
     simp at hi;obtain⟨rfl,rfl,rfl⟩:=hi
     exact absurd (by rw [e];exact(Qsv (i:=k) (by simpa using hk)).1) hn.1
   | succ i=>
    cases k with
    | zero=>
     simp at hk;obtain⟨rfl,rfl,rfl⟩:=hk
     exact absurd (by rw [<-e];exact(Qsv (i:=i) (by simpa using hi)).1) hn.1
    | succ k=>rw [ih hn.2 (i:=i) (k:=k) (by simpa using hi) (by simpa using hk) e]
theorem QB8 {M:Mut}{B:St}{t:Nat}{v:V}(h:look (M.run B).fr t=some v):(∃u,look B.fr t=some u)\/∃u,M.put=some (t,u):=by
 have kill:∀{l:List Nat} {B:St} {v:V},look (B.killL l).fr t=some v->∃u,look B.fr t=some u:=by
  intro l
  induction l with
  | nil=>intro B v h;exact⟨v,h⟩
  | cons b l ih=>
   intro B v h
   obtain⟨u,hu⟩:=ih h
   have hu:look (Qiv b B.fr) t=some u:=hu
   rw [Qm0]at hu
   obtain⟨w,hw,_⟩:=Qas.1 hu
   exact⟨w,hw⟩
 unfold Mut.run at h
 split at h
 ·rw [Qxx]at h;exact .inl (kill h)
 rename_i d u hp
 by_cases e:d=t
 ·subst e;exact .inr ⟨u,hp⟩
 have h:look ((d,u)::((B.killL M.kills).sets M.sets).fr) t=some v:=h
 rw [Qr _ _ e,Qxx]at h;exact .inl (kill h)
theorem QA8 {M:Mut}{B:St}{p:Nat}{ob:Ob}(h:look (M.run B).hp p=some ob):(∃u,look B.hp p=some u)\/p∈M.sets.map Prod.fst:=by
 have kill:∀{l:List Nat} {B:St} {ob:Ob},look (B.killL l).hp p=some ob->∃u,look B.hp p=some u:=by
  intro l
  induction l with
  | nil=>intro B ob h;exact⟨ob,h⟩
  | cons b l ih=>
   intro B ob h
   obtain⟨u,hu⟩:=ih h
   have hu:look (Qfk b B.hp) p=some u:=hu
   rw [Qkf]at hu
   split at hu
   ·cases hu
   obtain⟨w,hw,_⟩:=Qas.1 hu
   exact⟨w,hw⟩
 have sets:∀{l:List (Nat×Ob)} {B:St} {ob:Ob},look (B.sets l).hp p=some ob->(∃u,look B.hp p=some u)\/p∈l.map Prod.fst:=by
  intro l
  induction l with
  | nil=>intro B ob h;exact .inl ⟨ob,h⟩
  | cons q l ih=>
   intro B ob h
   by_cases e:q.1=p
   ·exact .inr (by rw [Qgc,e];exact Qbz)
   have h:look ((B.sets l).set q.1 q.2).hp p=some ob:=h
   rw [St.look_set_other _ _ e]at h
   exact(ih h).imp id (Qb1 _)
 have h1:look ((B.killL M.kills).sets M.sets).hp p=some ob:=by
  unfold Mut.run at h
  split at h<;>exact h
 rcases sets h1 with⟨u,hu⟩|h2
 ·exact .inl (kill hu)
 exact .inr h2
theorem QB9 : ∀{ms:List Mut} {B:St} {t:Nat} {v:V},look (bof B ms).fr t=some v->(∃u,look B.fr t=some u)\/t∈QjO ms:=by
 intro ms
 induction ms with
 | nil=>intro B t v h;exact .inl ⟨v,h⟩
 | cons M ms ih=>
  intro B t v h
  rcases ih h with⟨u,hu⟩|h
  ·rcases QB8 hu with h | ⟨u,hp⟩
   ·exact .inl h
   refine .inr ?_;rw [QjO,hp];exact Qbz
  refine .inr ?_;rw [QjO];split
  ·exact Qb1 _ h
  exact h
theorem QA9 : ∀{ms:List Mut} {B:St} {p:Nat} {ob:Ob},look (bof B ms).hp p=some ob->(∃u,look B.hp p=some u)\/p∈Qy4 ms:=by
 intro ms
 induction ms with
 | nil=>intro B p ob h;exact .inl ⟨ob,h⟩
 | cons M ms ih=>
  intro B p ob h
  rcases ih h with⟨u,hu⟩|h
  ·rcases QA8 hu with h | h
   ·exact .inl h
   exact .inr (List.mem_append_left _ h)
  exact .inr (List.mem_append_right _ h)
theorem QzC : ∀{ms:List Mut} {n t:Nat},t∈QjO (ms.take n)->t∈QjO ms:=by
 intro ms
 induction ms with
 | nil=>intro n t h;simpa using h
 | cons M ms ih=>
  intro n t h
  cases n with
  | zero=>simp [QjO]at h
  | succ n=>
   rw [List.take_succ_cons,QjO]at h
   rw [QjO]
   split at h
   ·rcases QaK.1 h with rfl | h
    ·exact Qbz
    exact Qb1 _ (ih h)
   exact ih h
def QEu (base:St)(its:List It)(listed:Array Bool)(σ:St):Prop:=∃j,j<=(QU its).length/\(∀p M,its[p]? = some (.tn M)->(listed[p]? = some true↔j0 its p<j))/\Sub σ (bof base ((QU its).take j))/\
 ∀i x fl nf,its[i]? = some (.add x fl nf)->(listed[i]? = some true->Qml σ x fl (((QU its).take j).drop (j0 its i)))/\(listed[i]? ≠ some true->x.ob.isSome=true->look σ.hp x.d=none)/\(fl=true->listed[i]? = some true->QjP (QU its) its=true\/j<(QU its).length->Qsk σ x)
def QDl (ops:Array Oper)(its:List It):Bool:=Qst its (its.length-1)&&(List.range (its.length-1)).all fun i=>Qha ops 8 i (its.length-1)
def Qxz (ops:Array Oper)(ms:List Mut)(its:List It):Bool:=QjP ms its||(QjP (ms.take (ms.length-1)) its&&QDl ops its)
def QCa (its:List It)(i:Nat):Bool:=match its[i]? with
 | some (.add _ true false)=>true
 | _=>false
def QDm (ops:Array Oper)(its:List It)(p:Nat):Bool:=Qst its p&&Nat.beq (j0 its p+1) (QU its).length&&(List.range its.length).all fun i=>!QCa its i||Qha ops 8 i p
def QxA (ops:Array Oper)(its:List It)(ms:List Mut)(S:St):Bool:=QtT ms S||(QtT (ms.take (ms.length-1)) S&&(List.range its.length).any (QDm ops its))
theorem AK.drawV {id:Nat}(hmix:P.follows .mixedOrders=true)(hlen:its.length=ops.size)(hord:Qxt ops=true)(hov:QB7 ops its=true)(hap:Qy5 base its=true)(hsv:QAi ops its=true)(hfk:Qxz ops (QU its) its=true)(hsk:QxA ops its (QU its) S=true)(hS:Sub base S)
  (steps:∀i o it,ops[i]? = some o->its[i]? = some it->Qru P C ops base S its i o it)
  (k:∀σ,Sub σ (bof base (QU its))->(∀i x fl nf,its[i]? = some (.add x fl nf)->Qml σ x fl ((QU its).drop (j0 its i)))->AK P C Q (.x .normal) ks σ):AK P C Q (.c (.region id ops true)) ks base:=by
 simp only [Qy5,QB,Qad,Qe4]at hap
 obtain⟨⟨hnd,hd1⟩,hd2⟩:=hap
 have hnd:=Qb4.1 hnd
 have ord:∀i p it M,its[i]? = some it->its[p]? = some (.tn M)->p≠i->(∀x,it≠.add x true false)->(p<i->Qha ops 8 p i=true)/\(i<p->Qha ops 8 i p=true):=by
  intro i p it M hi hp hne hnf
  have hil:=(QT.1 hi).1
  have hpl:=(QT.1 hp).1
  unfold QB7 at hov
  rw [Qad]at hov
  have h1:=hov i (Qi1.2 hil)
  rw [Qad]at h1
  have h2:=h1 p (Qi1.2 hpl)
  have hm:Qst its p=true:=by unfold Qst;rw [hp]
  have hb:Nat.beq p i=false:=by cases hb:Nat.beq p i with
   | true=>exact absurd (QaL hb) hne
   | false=>rfl
  rw [hm,hb,hi]at h2
  simp only [Qft,Bool.false_or]at h2
  have h3:(bif Nat.ble (p+1) i then Qha ops 8 p i else Qha ops 8 i p)=true:=by
   cases it with
   | add x fl nf=>cases fl with
    | true=>cases nf with
     | false=>exact absurd rfl (hnf x)
     | true=>exact h2
    | false=>exact h2
   | tn M=>exact h2
  refine⟨fun h=>?_,fun h=>?_⟩
  ·rw [show Nat.ble (p+1) i=true from Qqo h]at h3;exact h3
  have:Nat.ble (p+1) i=false:=by cases hc:Nat.ble (p+1) i with
   | true=>have:=QbV hc;omega
   | false=>rfl
  rw [this]at h3;exact h3
 have sets:∀(i p:Nat) (x:DF) (fl nf:Bool) (M:Mut),its[i]? = some (.add x fl nf)->its[p]? = some (.tn M)->x.ob.isSome=true->x.d∈M.sets.map Prod.fst->Qha ops 8 i p=true:=by
  intro i p x fl nf M hi hp hob hmem
  have hil:=(QT.1 hi).1
  have hpl:=(QT.1 hp).1
  unfold QAi at hsv
  rw [Qad]at hsv
  have h1:=hsv i (Qi1.2 hil)
  rw [Qad]at h1
  have h2:=h1 p (Qi1.2 hpl)
  rw [hi,hp]at h2
  dsimp only at h2
  rw [QjL.2 hmem]at h2
  have:x.ob.isNone=false:=by cases hx:x.ob with
   | none=>rw [hx]at hob;cases hob
   | some=>rfl
  rw [this]at h2
  simpa using h2
 have memSets:∀{ms:List Mut} {d:Nat},d∈Qy4 ms->∃(c:Nat) (M:Mut),ms[c]? = some M/\d∈M.sets.map Prod.fst:=by
  intro ms
  induction ms with
  | nil=>intro d h;cases h
  | cons N ms ih=>
   intro d h
   rcases QcH.1 h with h | h
   ·exact⟨0,N,rfl,h⟩
   obtain⟨c,M,h1,h2⟩:=ih h;exact⟨c+1,M,by simpa using h1,h2⟩
 have all:∀{l:List It} {ms:List Mut},QjP ms l=true->∀{q:Nat} {y:DF} {nf:Bool},l[q]? = some (.add y true nf)->ms.all (QyJ y)=true:=by
  intro l
  induction l with
  | nil=>intro ms _ q y nf h;simp at h
  | cons it l ih=>
   intro ms h q y nf hq
   cases it with
   | add z f g=>
    rw [QjP,QB]at h
    cases q with
    | zero=>simp at hq;obtain⟨rfl,rfl,rfl⟩:=hq;simpa using h.1
    | succ q=>exact ih h.2 (by simpa using hq)
   | tn M=>
    cases q with
    | zero=>simp at hq
    | succ q=>exact ih h (by simpa using hq)
 have lst:QjP (QU its) its=true\/(QjP ((QU its).take ((QU its).length-1)) its=true/\(∃M,its[its.length-1]? = some (.tn M)/\j0 its (its.length-1)+1=(QU its).length)/\∀i,i<its.length-1->Qha ops 8 i (its.length-1)=true):=by
  unfold Qxz at hfk
  rw [Qcs,QB]at hfk
  refine hfk.imp_right fun h=>⟨h.1,?_⟩
  have h2:=h.2
  unfold QDl at h2
  rw [QB,Qad]at h2
  obtain⟨p1,p2⟩:=h2
  refine⟨?_,fun i hi=>p2 i (Qi1.2 hi)⟩
  unfold Qst at p1
  split at p1
  ·rename_i M hM
   refine⟨M,hM,?_⟩
   have h3:=QA7 hM
   have hl:=(QT.1 hM).1
   have h4:j0 its its.length=(QU its).length:=by unfold j0;rw [Qi2]
   rw [show its.length-1+1=its.length by omega]at h3
   omega
  cases p1
 refine AK.regionInv (QEu base its) hmix ?_ hord ?_ ?_
 ·intro listed σ i o hs hd hi ho ⟨j,hj,hmu,hsub,hadd⟩
  obtain⟨o',ho',hl,hdeps⟩:=(Ql3 hs).1 hi
  rw [ho]at ho';cases ho'
  have hio:i<ops.size:=(Qhr.1 ho).1
  have hil:i<its.length:=by omega
  have hin:i<listed.size:=by omega
  obtain⟨it,hit⟩:∃it,its[i]? = some it:=⟨_,QG hil⟩
  have hnl:listed[i]? ≠ some true:=by rw [hl];simp
  have hst:=steps i o it ho hit
  have depsL:∀{q:Nat},QkS o q=true->listed[q]? = some true:=fun hdep=>by
   simp only [QkS,Qma,QB]at hdep
   obtain⟨e,he,hb,hon⟩:=hdep
   have:=hdeps e (QvA.1 he) hb
   rwa [QaL hon]at this
  have stage:(∀x,it≠.add x true false)->j=j0 its i:=by
   intro hnf
   apply Nat.le_antisymm
   ·rcases QeR (j0 its i) j with hlt | h
    ·obtain⟨p,M,hp,hpj⟩:=QuO (its:=its) (c:=j0 its i) (by omega)
     have hpl:listed[p]? = some true:=(hmu p M hp).2 (by omega)
     rcases Nat.lt_trichotomy p i with h | h | h
     ·have:=QAl hp h;omega
     ·subst h;exact absurd hpl hnl
     have hm:=(ord i p it M hit hp (by omega) hnf).2 h
     exact absurd (Qhu hd 8 hm hpl) hnl
    exact h
   rcases Nat.eq_zero_or_pos (j0 its i)with h | h
   ·omega
   have hle:j0 its i<=(QU its).length:=by
    have h1:=QwH (its:=its) (show i<=its.length by omega)
    have h2:j0 its its.length=(QU its).length:=by unfold j0;rw [Qi2]
    omega
   obtain⟨p,M,hp,hpj⟩:=QuO (its:=its) (c:=j0 its i-1) (by omega)
   have hpi:p<i:=by
    rcases Nat.lt_trichotomy p i with h' | h' | h'
    ·exact h'
    ·subst h';omega
    have:=QwH (its:=its) (Nat.le_of_lt h');omega
   have hm:=(ord i p it M hit hp (by omega) hnf).1 hpi
   have:=(hmu p M hp).1 (Qvt hs hd hm hi)
   omega
  have setL:∀q,(listed.setIfInBounds i true)[q]? = some true↔q=i\/listed[q]? = some true:=fun q=>by
   by_cases e:i=q
   ·subst e;simp [Qq4,hin]
   rw [QyL e];simp [Ne.symm e]
  cases it with
  | tn M=>
   have hjj:=stage fun x e=>by cases e
   subst hjj
   have hM:=QAj hit
   have hos:QbO P C ops o σ (M.run σ):=hst σ hsub fun q y fl nf hq hdep=>(hadd q y fl nf hq).1 (depsL hdep)
   have flt:∀{q:Nat} {y:DF} {fl nf:Bool},fl=true->listed[q]? = some true->its[q]? = some (.add y fl nf)->QjP (QU its) its=true\/j0 its i+1<(QU its).length->Qsk (M.run σ) y:=by
    intro q y fl nf hfl hql hq hz
    subst hfl
    have h1:=(hadd q y true nf hq).2.2 rfl hql (hz.imp_right fun h=>by omega)
    refine QAk ?_ h1
    rcases lst with h | ⟨h,_,_⟩
    ·exact Qad.1 (all h hq) M (Qaa hM.1)
    rcases hz with hz | hz
    ·exact Qad.1 (all hz hq) M (Qaa hM.1)
    refine Qad.1 (all h hq) M (Qaa (i:=j0 its i) ?_)
    rw [List.getElem?_take_of_lt (by omega)];exact hM.1
   refine⟨_,hos,j0 its i+1,by have:=Qy6 hit;omega,fun p M' hp=>?_,?_,fun q y fl nf hq=>⟨fun hql=>?_,fun hql hob=>?_,fun hfl hql hz=>?_⟩⟩
   ·rw [setL]
    constructor
    ·rintro (rfl | h)
     ·omega
     have:=(hmu p M' hp).1 h;omega
    intro h
    rcases QeR (j0 its p) (j0 its i)with h1 | h1
    ·exact .inr ((hmu p M' hp).2 h1)
    left
    rcases Nat.lt_trichotomy p i with h' | h' | h'
    ·have:=QAl hp h';omega
    ·exact h'
    have:=QAl hit h';omega
   ·rw [hM.2,QwG];exact hsub.run M
   ·rcases(setL q).1 hql with rfl | hql
    ·rw [hit]at hq;cases hq
    rcases QeR (j0 its i) (j0 its q)with hlt | hle
    ·cases fl with
     | true=>
      refine Qml.of (flt rfl hql hq ?_)
      rcases lst with h | ⟨_,⟨M',hp,hpj⟩,_⟩
      ·exact .inl h
      right
      have hqi:q<=its.length-1:=by have:=(QT.1 hq).1;omega
      have:=QwH (its:=its) hqi
      omega
     | false=>
      exfalso
      have hiq:i<q:=by
       rcases QeR i q with h | h
       ·exact h
       have:=QwH (its:=its) h;omega
      have hm:=(ord q i _ M hq hit (by omega) (fun x e=>by cases e)).1 hiq
      exact absurd (Qhu hd 8 hm hql) hnl
    rw [hM.2,List.drop_append_of_le_length (by simp;have:=Qy6 hit;omega)]
    exact((hadd q y fl nf hq).1 hql).run
   ·have hqi:q≠i:=fun e=>by subst e;rw [hit]at hq;cases hq
    have hql':listed[q]? ≠ some true:=fun h=>hql ((setL q).2 (.inr h))
    refine Mut.none_look ?_ ((hadd q y fl nf hq).2.1 hql' hob)
    rw [Qad]
    intro r hr
    cases hb:Nat.beq r.1 y.d with
    | false=>rfl
    | true=>
     have hm:=sets q i y fl nf M hq hit hob (by rw [<-QaL hb];exact List.mem_map_of_mem hr)
     exact absurd (Qvt hs hd hm hi) hql'
   refine flt hfl ((setL q).1 hql |>.resolve_left fun e=>by subst e;rw [hit]at hq;cases hq) hq hz
  | add x fl nf=>
   have hfresh:x.ob.isSome=true->look σ.hp x.d=none:=(hadd i x fl nf hit).2.1 hnl
   have hos:QbO P C ops o σ (σ.addF x):=by
    have hB:¬(fl=true/\nf=false)->(∀σ,Sub σ (bof base ((QU its).take (j0 its i)))->(∀k y fl nf,its[k]? = some (.add y fl nf)->QkS o k=true->Qml σ y fl (((QU its).take (j0 its i)).drop (j0 its k)))->(x.ob.isSome=true->look σ.hp x.d=none)->QbO P C ops o σ (σ.addF x))->QbO P C ops o σ (σ.addF x):=fun hne hst=>by
     have hjj:=stage fun y e=>by cases e;exact hne ⟨rfl,rfl⟩
     subst hjj
     exact hst σ hsub (fun q y fl nf hq hdep=>(hadd q y fl nf hq).1 (depsL hdep)) hfresh
    cases fl with
    | true=>cases nf with
     | false=>
      have h1:Sub base S:=hS
      have hZ:QjP (QU its) its=true\/j<(QU its).length:=by
       refine lst.imp_right fun ⟨_,⟨M,hp,hpj⟩,hall⟩=>?_
       rcases QeR j (QU its).length with h | h
       ·exact h
       exfalso
       have hpl:=(hmu _ M hp).2 (by omega)
       have hne:i≠its.length-1:=fun e=>by rw [<-e,hit]at hp;cases hp
       exact absurd (Qhu hd 8 (hall i (by omega)) hpl) hnl
      have h2:Sub (bof base ((QU its).take j)) S:=by
       unfold QxA at hsk
       rw [Qcs]at hsk
       rcases hsk with hsk | hsk
       ·exact Sub.stable hsk h1 j
       rw [QB,Qma]at hsk
       obtain⟨hs1,p,_,hp⟩:=hsk
       unfold QDm at hp
       simp only [QB]at hp
       obtain⟨⟨p1,p2⟩,p3⟩:=hp
       have hjm:j<=(QU its).length-1:=by
        rcases QeR ((QU its).length-1) j with hlt | h
        ·exfalso
         obtain⟨M,hM⟩:∃M,its[p]? = some (.tn M):=by
          unfold Qst at p1
          split at p1
          ·exact⟨_,‹_›⟩
          cases p1
         have p2:=QaL p2
         have hpl:=(hmu p M hM).2 (by omega)
         have h3:=Qad.1 p3 i (Qi1.2 hil)
         have hf:QCa its i=true:=by unfold QCa;rw [hit]
         rw [hf]at h3
         exact absurd (Qhu hd 8 h3 hpl) hnl
        exact h
       have h4:=Sub.stable hs1 h1 j
       rwa [List.take_take,Nat.min_eq_left hjm]at h4
      exact hst σ ⟨fun t v h=>hsub.1 t v (h2.1 t v h),fun p ob h=>hsub.2 p ob (h2.2 p ob h)⟩ (fun q y nf hq hdep=>(hadd q y true nf hq).2.2 rfl (depsL hdep) hZ) hfresh
     | true=>exact hB (fun e=>by cases e.2) hst
    | false=>exact hB (fun e=>by cases e.1) hst
   obtain⟨hmd,hmo⟩:=Qsv hit
   have frK:∀t v,t≠x.d->look σ.fr t=some v->look (σ.addF x).fr t=some v:=by
    intro t v hne h
    unfold St.addF
    split
    ·show look ((x.d,x.v)::σ.fr) t=some v
     rw [Qr _ _ (Ne.symm hne)];exact h
    show look ((x.d,x.v)::σ.fr) t=some v
    rw [Qr _ _ (Ne.symm hne)];exact h
   have hpK:∀p,(p≠x.d\/x.ob=none)->look (σ.addF x).hp p=look σ.hp p:=by
    intro p hne
    unfold St.addF
    split
    ·rfl
    rename_i ob hob
    rcases hne with hne | hne
    ·exact σ.look_set_other _ (Ne.symm hne)
    rw [hob]at hne;cases hne
   refine⟨_,hos,j,hj,fun p M hp=>?_,⟨fun t v h=>?_,fun p ob h=>?_⟩,fun q y fl' nf' hq=>⟨fun hql=>?_,fun hql hob=>?_,fun hfl hql hz=>?_⟩⟩
   ·rw [setL,<-hmu p M hp]
    have:p≠i:=fun e=>by subst e;rw [hit]at hp;cases hp
    simp [this]
   ·refine frK t v (fun e=>?_) (hsub.1 t v h)
    subst e
    have h1:=hd1 _ hmd
    rcases QB9 h with⟨u,hu⟩|h2
    ·rw [Qo8 hu]at h1;cases h1.1
    rw [QjL.2 (QzC h2)]at h1;cases h1.2
   ·have hne:p≠x.d\/x.ob=none:=by
     cases hob:x.ob with
     | none=>exact .inr rfl
     | some ob'=>
      refine .inl fun e=>?_
      subst e
      have hob':x.ob.isSome=true:=by rw [hob];rfl
      have h1:=hd2 _ (hmo hob')
      rcases QA9 h with⟨u,hu⟩|h2
      ·rw [Qo8 hu]at h1;cases h1
      obtain⟨c,M,h3,h4⟩:=memSets h2
      have hc:c<j:=by
       have:=(QT.1 h3).1
       simp at this;omega
      have h3':(QU its)[c]? = some M:=by rw [List.getElem?_take_of_lt hc]at h3;exact h3
      obtain⟨p',M',hp',hpc⟩:=QuO (its:=its) (c:=c) (QT.1 h3').1
      have h5:=(QAj hp').1
      rw [hpc,h3']at h5;cases h5
      have hm:=sets i p' x fl nf M hit hp' hob' h4
      exact absurd (Qhu hd 8 hm ((hmu p' M hp').2 (by omega))) hnl
    rw [hpK p hne];exact hsub.2 p ob h
   ·by_cases e:q=i
    ·subst e
     rw [hit]at hq;cases hq
     refine Qml.of ⟨?_,fun ob hob=>?_⟩
     ·unfold St.addF
      split<;>exact Qv _ _ _
     unfold St.addF
     rw [hob];exact Qv _ _ _
    have hql':listed[q]? = some true:=((setL q).1 hql).resolve_left e
    obtain⟨h1,h2⟩:=(hadd q y fl' nf' hq).1 hql'
    have hne:y.d≠x.d:=fun h=>e (QvF hnd hq hit h)
    exact⟨fun hal=>frK _ _ hne (h1 hal),fun hal ob hob=>by rw [hpK _ (.inl hne)];exact h2 hal ob hob⟩
   ·have e:q≠i:=fun e=>hql ((setL q).2 (.inl e))
    have hql':listed[q]? ≠ some true:=fun h=>hql ((setL q).2 (.inr h))
    have hne:y.d≠x.d:=fun h=>e (QvF hnd hq hit h)
    rw [hpK _ (.inl hne)];exact(hadd q y fl' nf' hq).2.1 hql' hob
   by_cases e:q=i
   ·subst e
    rw [hit]at hq;cases hq
    refine⟨?_,fun ob hob=>?_⟩
    ·unfold St.addF
     split<;>exact Qv _ _ _
    unfold St.addF
    rw [hob];exact Qv _ _ _
   have hql':listed[q]? = some true:=((setL q).1 hql).resolve_left e
   obtain⟨h1,h2⟩:=(hadd q y fl' nf' hq).2.2 hfl hql' hz
   have hne:y.d≠x.d:=fun h=>e (QvF hnd hq hit h)
   exact⟨frK _ _ hne h1,fun ob hob=>by rw [hpK _ (.inl hne)];exact h2 ob hob⟩
 ·refine⟨0,Qnl _,fun p M _=>by simp [Array.getElem?_replicate],⟨fun _ _ h=>h,fun _ _ h=>h⟩,fun i x fl nf hi=>⟨fun h=>by simp [Array.getElem?_replicate]at h,fun _ hob=>?_,fun _ h=>by simp [Array.getElem?_replicate]at h⟩⟩
  have h1:=hd2 _ ((Qsv hi).2 hob)
  cases h:look base.hp x.d with
  | none=>rfl
  | some ob=>rw [Qo8 h]at h1;cases h1
 intro listed σ hs hall ⟨j,hj,hmu,hsub,hadd⟩
 have hjt:j=(QU its).length:=by
  rcases QeR j (QU its).length with h | h
  ·obtain⟨p,M,hp,hpj⟩:=QuO (its:=its) h
   have:=(hmu p M hp).1 (hall p (by have:=(QT.1 hp).1;omega))
   omega
  omega
 subst hjt
 rw [Qi2]at hsub
 refine k σ hsub fun i x fl nf hi=>?_
 have:=(hadd i x fl nf hi).1 (hall i (by have:=(QT.1 hi).1;omega))
 rwa [Qi2]at this
end
inductive MD where
 | s
 | st (r:List V) (rs:List (List V))
 | app (rs:List (List V)) (m:Nat)
 | any (M:Mut)
 | cm (en:Ent) (M N:List (Nat×Nat)) (dead:List Nat) (ms:List Qel) (outs:List (Nat×Ob)) (r:V) (same:List Nat)
inductive Dw where
 | a (h:Qc4) (sv:Option (List (Option Nat)×V)) (fl:Bool) (nf:Bool:=false)
 | m (md:MD)
def QCb (P:Program)(T:Tab)(f:Operand->Option V)(hp:Nat->Option Ob)(c:Call):Ent->Option (Nat×List V×Prop)
 | .fn=>match c.callee with
  | .value (.func g)=>bif Qab T.en g then match evs f c.args.toList with
   | some vs=>some (g,vs,True)
   | none=>none
   else none
  | _=>none
 | .clo=>match c.callee with
  | .value x=>match f x with
   | some (.clo (.func g) fs cs)=>bif Qab T.en g then match evs f c.args.toList with
    | some vs=>some (g,fs++(vs++cs),True)
    | none=>none
    else none
   | _=>none
  | _=>none
 | .me g=>match c.callee with
  | .invoke x name=>match f x with
   | some (.ifc t u)=>bif Qab T.en g then match evs f c.args.toList with
    | some vs=>some (g,u::vs,(Qmg P t name=some (g,true)/\QyR P t=true)\/(Qmg P t name=some (g,false)/\QtL P t=true))
    | none=>none
    else none
   | _=>none
  | _=>none
 | .mv g e=>match c.callee with
  | .invoke x name=>match f x with
   | some (.ifc t (.loc b 0 off))=>match hp b with
    | some (.var cs)=>match cs[off]? with
     | some r=>bif Qab T.en g then match evs f c.args.toList with
      | some vs=>some (g,r::vs,Qmg P t name=some (g,false)/\QwB P t e=true/\Qgp P e=some false)
      | none=>none
      else none
     | none=>none
    | _=>none
   | _=>none
  | _=>none
theorem QAm {P:Program}{C:Ctx}{T:Tab}{f:Operand->Option V}{hp:Nat->Option Ob}{o:Oper}{c:Call}{en:Ent}{g:Nat}{vs:List V}{ψ:Prop}{σ:St}(ok:QdJ P T)(ho:o.op=.call c)(e:QCb P T f hp c en=some (g,vs,ψ))(hφ:ψ)
  (h1:∀x u,f x=some u->σ.opd x=some u) (h2:∀b u,hp b=some u->look σ.hp b=some u):Qbb P C o σ g vs:=by
 obtain⟨ce,ags,ts⟩:=c
 unfold QCb at e
 split at e
 ·split at e
  ·rename_i f' hc
   dsimp only at hc;subst hc
   replace e:=Qaf e;obtain⟨e1,e⟩:=e
   split at e
   ·rename_i vs' hv;cases e;exact Qbb.fn ho (ok.en e1) (QfU h1 hv)
   cases e
  cases e
 ·split at e
  ·rename_i x hc
   dsimp only at hc;subst hc
   split at e
   ·rename_i f' fs cs hx
    replace e:=Qaf e;obtain⟨e1,e⟩:=e
    split at e
    ·rename_i vs' hv;cases e;exact Qbb.clo ho (h1 _ _ hx) (ok.en e1) (QfU h1 hv)
    cases e
   cases e
  cases e
 ·split at e
  ·rename_i x name hc
   dsimp only at hc;subst hc
   split at e
   ·rename_i t u hx
    replace e:=Qaf e;obtain⟨e1,e⟩:=e
    split at e
    ·rename_i vs' hv;cases e;exact Qbb.meth (r:=u) ho (h1 _ _ hx) hφ (ok.en e1) (QfU h1 hv)
    cases e
   cases e
  cases e
 split at e
 ·rename_i x name hc
  dsimp only at hc;subst hc
  split at e
  ·rename_i t b off hx
   split at e
   ·rename_i cs hb
    split at e
    ·rename_i r hr0
     replace e:=Qaf e;obtain⟨e1,e⟩:=e
     split at e
     ·rename_i vs' hv;cases e;exact Qbb.methV ho (h1 _ _ hx) hφ.1 hφ.2.1 hφ.2.2 (h2 _ _ hb) hr0 (ok.en e1) (QfU h1 hv)
     cases e
    cases e
   cases e
  cases e
 cases e
theorem QBa {bk:Nat->Option Nat}{hp hp':Nat->Option Ob}(h:∀b u,hp b=some u->hp' b=some u):∀{M:List (Nat×Nat)} {l:List (Nat×Ob)},Qgq bk hp M=some l->Qgq bk hp' M=some l:=by
 intro M
 induction M with
 | nil=>intro l e;exact e
 | cons p M ih=>
  obtain⟨d,s⟩:=p
  intro l e
  rw [Qgq]at e ⊢
  split at e
  ·rename_i ob hob
   split at e
   ·rename_i ob' hob'
    split at e
    ·rename_i l' hl
     simp only [h _ _ hob,hob',ih hl];exact e
    cases e
   cases e
  cases e
theorem QAn {σ:St}{M N:List (Nat×Nat)}{dead:List Nat}{outs:List (Nat×Ob)}(h:QcL ⟨[],N.map fun p=>(p.1,Ob.itr0)⟩ M N dead outs=true):QcL σ M N dead outs=true:=by
 simp only [QcL,QB,Qad]at h ⊢
 obtain⟨⟨h1,h2⟩,h3⟩:=h
 refine⟨⟨h1,h2⟩,fun p hp=>⟨⟨?_,(h3 p hp).1.2⟩,(h3 p hp).2⟩⟩
 have hn:∀{l:List (Nat×Nat)},p∈l->(look (l.map fun p=>(p.1,Ob.itr0)) p.1).isNone=false:=by
  intro l hp
  induction l with
  | nil=>cases hp
  | cons q l ih=>
   show(look ((q.1,Ob.itr0)::l.map fun p=>(p.1,Ob.itr0)) p.1).isNone=false
   by_cases e:q.1=p.1
   ·rw [e,Qv];rfl
   rw [Qr _ _ e]
   refine ih ?_
   rcases QaK.1 hp with h | h
   ·exact absurd (congrArg Prod.fst h).symm e
   exact h
 have h4:=(h3 p hp).1.1
 rw [hn hp,Bool.or_false]at h4
 rw [h4];rfl
theorem Qsw {σ:St}(dead:List Nat):∀(l:List (Nat×Ob)),(σ.killL dead).sets l=σ.after dead l:=by
 intro l
 induction l with
 | nil=>rfl
 | cons p l ih=>rw [St.sets,ih];rfl
def QAo (hp:Nat->Option Ob)(hsN:List (Nat×Ob)):List Nat->Prop
 | []=>True
 | b::r=>hp b=look hsN b/\QAo hp hsN r
theorem QBb {hp:Nat->Option Ob}{hsN:List (Nat×Ob)}:∀{l:List Nat},QAo hp hsN l->∀b,Qab l b=true->hp b=look hsN b:=by
 intro l
 induction l with
 | nil=>intro _ b h;cases h
 | cons a l ih=>
  intro h b hb
  rw [Qab]at hb
  cases e:Nat.beq a b with
  | true=>rw [<-QaL e];exact h.1
  | false=>rw [e]at hb;exact ih h.2 b (by simpa using hb)
theorem QzD {same:List Nat}:∀{l:List (Nat×Ob)} {b:Nat},look (l.filter fun p=>!(Qab same p.1)) b=if Qab same b=true then none else look l b:=by
 intro l
 induction l with
 | nil=>intro b;simp [look]
 | cons p l ih=>
  intro b
  rw [Qlk]
  by_cases e:p.1=b
  ·subst e
   cases h:Qab same p.1 with
   | true=>
    simp only [Qft,Bool.false_eq_true,if_false]
    rw [ih,h];simp
   | false=>
    simp only [Bool.not_false,if_true,Bool.false_eq_true,if_false]
    obtain⟨k,v⟩:=p
    rw [Qv,Qv]
  cases h:Qab same p.1 with
  | true=>
   simp only [Qft,Bool.false_eq_true,if_false]
   rw [ih,Qr (k:=p.1) p.2 l e]
  | false=>
   simp only [Bool.not_false,if_true]
   rw [Qr (k:=p.1) p.2 _ e,ih,Qr (k:=p.1) p.2 l e]
theorem R.congrHp {C:Ctx}{σ σ':St}(hf:σ'.fr=σ.fr)(hh:∀o,look σ'.hp o=look σ.hp o){a:Act}{w:World}(hR:R C σ a w):R C σ' a w:=by
 obtain⟨φ,h⟩:=hR
 exact⟨φ,h.os,h.tape,h.output,h.size,h.kept,h.inj,fun o B hB=>by rw [hh];exact h.dom o B hB,h.lt,h.new,⟨h.stay.1,fun o ob B h1 h2 h3=>h.stay.2 o ob B h1 (by rw [<-hh];exact h2) h3⟩,h.tmps,h.defers,fun t v hv=>h.frame t v (by rw [<-hf];exact hv),fun o ob hob=>h.heap o ob (by rw [<-hh];exact hob)⟩
def mu1 (P:Program)(C:Ctx)(T:Tab)(n:Nat)(md:MD)(o:Oper)(f:Operand->Option V)(hp:Nat->Option Ob):Option (Mut×Option Prop):=match md with
 | .cm en M N dead ms outs r same=>match o.dst with
  | some d=>match o.op with
   | .call c=>bif QcL ⟨[],N.map fun p=>(p.1,Ob.itr0)⟩ M N dead outs&&QeY (M.map Prod.fst)&&QeY (N.map Prod.fst)&&Nat.ble (d+1) n then match QCb P T f hp c en with
    | some (g,vs,ψ)=>match Qke (bkM M) ms vs with
     | some us=>match Qgq (bkM M) hp M with
      | some hsC=>match Qgq (bkM N) (look outs) N with
       | some hsN=>match trV (bkM N) r with
        | some r'=>match same with
         | []=>some (⟨dead,hsN,some (d,r')⟩,some (ψ/\Qc P g us hsC (Gives r outs)))
         | _=>match dead with
          | []=>some (⟨[],hsN.filter (fun p=>!(Qab same p.1)),some (d,r')⟩,some ((ψ/\Qc P g us hsC (Gives r outs))/\QAo hp hsN same))
          | _=>none
        | none=>none
       | none=>none
      | none=>none
     | none=>none
    | none=>none
    else none
   | _=>none
  | none=>none
 | .any M=>some (M,some (∀σ:St,(∀x u,f x=some u->σ.opd x=some u)->(∀b u,hp b=some u->look σ.hp b=some u)->Stp P C o σ (M.run σ)))
 | .s=>match o.dst with
  | some d=>match o.op with
   | .assign x=>match f x with
    | some v=>bif Nat.ble (d+1) n then some (⟨[],[],some (d,v)⟩,none)else none
    | none=>none
   | .move x=>match f x with
    | some v=>bif Nat.ble (d+1) n then some (⟨[],[],some (d,v)⟩,none)else none
    | none=>none
   | _=>none
  | none=>match o.op with
   | .store Tx x y=>match f x with
    | some (.loc b i off)=>match f y with
     | some v=>match hp b with
      | some (.var cs)=>match i with
       | 0=>match look T.sz Tx with
        | some k=>bif v.isV&&Nat.beq v.cells.length k&&v.cells.all V.one&&Nat.ble (off+k) cs.length then some (⟨[],[(b,.var (QcW cs off v.cells))],none⟩,none)else none
        | none=>none
       | _=>none
      | _=>none
     | none=>none
    | _=>none
   | _=>none
 | .st r rs'=>match o.dst with
  | some _=>none
  | none=>match o.op with
   | .store Tx x y=>match f x with
    | some (.loc b i off)=>match f y with
     | some v=>match hp b with
      | some (.arr z rs)=>match look T.sz Tx with
       | some k=>bif v.isV&&Nat.beq v.cells.length k&&v.cells.all V.one&&v.cells.all V.dat&&Nat.ble (off+k) z then some (⟨[],[(b,.arr z rs')],none⟩,some (rs[i]? = some r/\rs.set i (QcW r off v.cells)=rs'))else none
       | none=>none
      | _=>none
     | none=>none
    | _=>none
   | _=>none
 | .app rs' m=>match o.dst with
  | some d=>match o.op with
   | .call c=>match c.callee with
    | .builtin .append=>match c.args.toList with
     | [x,y]=>match c.argTypes.toList with
      | [Tx,Ty]=>match f x with
       | some (.own b k)=>match f y with
        | some v=>match hp b with
         | some (.arr z rs)=>match look T.es Tx with
          | some (e,z',by_)=>match look T.zv e with
           | some zs=>bif (look T.es Ty).isSome&&Nat.ble (d+1) n&&!(Nat.ble 616 b)&&Nat.beq z z'&&Nat.beq zs.length z&&!(Nat.beq z 0)&&Nat.ble by_ 32768 then match v with
            | .sl z'' us=>bif Nat.beq z z'' then some (⟨[b],[(b,.arr z rs')],some (d,.own b m)⟩,some (rs.length=k/\decide (k+us.length<=4294967296)=true/\rs++us=rs'/\k+us.length=m))else none
            | _=>none
            else none
           | none=>none
          | none=>none
         | _=>none
        | none=>none
       | _=>none
      | _=>none
     | _=>none
    | _=>none
   | _=>none
  | none=>none
def Qnp (obj:Bool)(o:Oper)(t:Nat)(fo:Bool)(ms:List Mut):List (It×Nat)->Nat->Option DF
 | (.add x fl _,j)::r,i+1=>bif Nat.beq x.d t&&QkS o i&&(bif fo then fl else bif obj then Qrc x fl (ms.drop j)else alv x fl (ms.drop j))then some x else Qnp obj o t fo ms r i
 | (.tn _,_)::r,i+1=>Qnp obj o t fo ms r i
 | _,_=>none
def Qpf (B:St)(fo:Bool)(ms:List Mut)(ri:List (It×Nat))(i:Nat)(o:Oper):Operand->Option V
 | .tmp t=>match look B.fr t with
  | some v=>some v
  | none=>match Qnp false o t fo ms ri i with
   | some x=>some x.v
   | none=>none
 | x=>B.opd x
def Qsx (B:St)(fo:Bool)(ms:List Mut)(ri:List (It×Nat))(i:Nat)(o:Oper)(b:Nat):Option Ob:=match look B.hp b with
 | some ob=>some ob
 | none=>match Qnp true o b fo ms ri i with
  | some x=>x.ob
  | none=>none
structure Dr where
 ri:List (It×Nat)
 ms:List Mut
 B:St
 φ:Prop
def QgY (P:Program)(C:Ctx)(T:Tab)(n:Nat)(ops:Array Oper)(S:St):List Dw->List Oper->Nat->List (It×Nat)->List Mut->St->Prop->Option Dr
 | [],_,_,ri,ms,B,φ=>some ⟨ri,ms,B,φ⟩
 | .a h sv fl nf::ds,o::l,i,ri,ms,B,φ=>match Qfx ops o (fun t=>Qpf (bif fl&&!nf then S else B) (fl&&!nf) ms ri i o (.tmp t))with
  | some true=>match o.dst with
   | some d=>bif Nat.ble (d+1) n then match ev1 P C T h o d (Qpf (bif fl&&!nf then S else B) (fl&&!nf) ms ri i o) (Qsx (bif fl&&!nf then S else B) (fl&&!nf) ms ri i o)with
    | some ⟨v,ob,q⟩=>match sv with
     | none=>QgY P C T n ops S ds l (i+1) ((.add ⟨d,v,ob⟩ fl nf,ms.length)::ri) ms B (Qpa φ q)
     | some (mm,u)=>QgY P C T n ops S ds l (i+1) ((.add ⟨d,u,ob⟩ fl nf,ms.length)::ri) ms B (Qpa φ q/\v.denil mm=u)
    | none=>none
    else none
   | none=>none
  | some false=>match o.dst with
   | some d=>bif Nat.ble (d+1) n then QgY P C T n ops S ds l (i+1) ((.add ⟨d,.lit undef,none⟩ fl nf,ms.length)::ri) ms B φ else none
   | none=>none
  | none=>none
 | .m md::ds,o::l,i,ri,ms,B,φ=>match Qfx ops o (fun t=>Qpf B false ms ri i o (.tmp t))with
  | some true=>match mu1 P C T n md o (Qpf B false ms ri i o) (Qsx B false ms ri i o)with
   | some (M,q)=>QgY P C T n ops S ds l (i+1) ((.tn M,ms.length)::ri) (ms++[M]) (M.run B) (Qpa φ q)
   | none=>none
  | _=>none
 | _::_,[],_,_,_,_,_=>none
def QaM (ri:List (It×Nat)):List It:=(ri.map Prod.fst).reverse
section
variable {P:Program}{C:Ctx}{T:Tab}{Q:Exit->St->Prop}{n:Nat}{ops:Array Oper}{base S:St}{ks:List Fr}
theorem Qyc {md:MD}{o:Oper}{f:Operand->Option V}{hp:Nat->Option Ob}{M:Mut}{q:Option Prop}{σ:St}(ok:QdJ P T)(hN:Qdb P C n)(e:mu1 P C T n md o f hp=some (M,q))(hq:match q with | none=>True | some p=>p)
  (h1:∀x u,f x=some u->σ.opd x=some u) (h2:∀b u,hp b=some u->look σ.hp b=some u):Stp P C o σ (M.run σ):=by
 have hn:=hN.n
 have hpg:=hN.g
 unfold mu1 at e
 cases md with
 | any M0=>cases e;exact hq σ h1 h2
 | cm en M0 N dead ms outs r same=>
  dsimp only at e
  split at e
  ·rename_i d hd
   split at e
   ·rename_i c ho
    replace e:=Qaf e;obtain⟨e1,e⟩:=e
    simp only [QB]at e1
    obtain⟨⟨⟨g1,g2⟩,g3⟩,g4⟩:=e1
    rw [<-hn]at g4
    have g1:=QAn (σ:=σ) g1
    have g2:=Qb4.1 g2
    have g3:=Qb4.1 g3
    have inj:QgW M0=true/\QgW N=true:=by
     simp only [QcL,QB]at g1
     exact⟨g1.1.1.1,g1.1.1.2⟩
    have mM:∀a b,bkM M0 a=some b->look M0 b=some a:=fun a b h=>Qbc inj.1 (Qe5 h) g2
    have mN:∀a b,bkM N a=some b->look N b=some a:=fun a b h=>Qbc inj.2 (Qe5 h) g3
    split at e
    ·rename_i g vs ψ hent
     split at e
     ·rename_i us hus
      split at e
      ·rename_i hsC hC
       split at e
       ·rename_i hsN hN
        split at e
        ·rename_i r' hr
         have call:ψ/\Qc P g us hsC (Gives r outs)->Stp P C o σ ((σ.after dead hsN).put d r'):=fun hq=>
          Stp.callM (g:=false) (QAm (C:=C) ok ho hent hq.1 h1 h2) hd g4 hpg g1 g2 (QgX mM hus) (Qcv mM (QBa h2 hC)) hq.2 (Qcv mN hN) (QjN mN hr)
         split at e
         ·cases e
          unfold Mut.run
          dsimp only
          rw [Qsw];exact call hq
         split at e
         ·cases e
          obtain⟨hq1,hq2⟩:=hq
          intro a w hR K Q hK
          refine call hq1 a w hR K Q fun a' w' hR'=>hK a' w' (R.congrHp ?_ (fun o=>?_) hR')
          ·unfold Mut.run;dsimp only;rw [Qsw];rfl
          unfold Mut.run;dsimp only;rw [Qsw]
          show look (_++σ.hp) o=look (_++σ.hp) o
          rw [QfH,QfH,QzD]
          by_cases hm:Qab same o=true
          ·rw [if_pos hm]
           have:=QBb hq2 o hm
           cases hl:look hsN o with
           | none=>rfl
           | some ob=>rw [hl]at this;exact h2 o ob this
          rw [if_neg hm]
         cases e
        cases e
       cases e
      cases e
     cases e
    cases e
   cases e
  cases e
 | s=>
  dsimp only at e
  split at e
  ·rename_i d hd
   split at e
   ·rename_i x ho
    split at e
    ·rename_i v hv
     replace e:=Qaf e;obtain⟨e1,e⟩:=e
     rw [<-hn]at e1
     cases e;exact Stp.assign ho hd e1 (h1 _ _ hv)
    cases e
   ·rename_i x ho
    split at e
    ·rename_i v hv
     replace e:=Qaf e;obtain⟨e1,e⟩:=e
     rw [<-hn]at e1
     cases e;exact Stp.move ho hd e1 (h1 _ _ hv)
    cases e
   cases e
  rename_i hd
  split at e
  ·rename_i Tx x y ho
   split at e
   ·rename_i b i off hx
    split at e
    ·rename_i v hv
     split at e
     ·rename_i cs hb
      split at e
      ·split at e
       ·rename_i k hk
        replace e:=Qaf e;obtain⟨e2,e⟩:=e
        cases e
        simp only [QB]at e2
        obtain⟨⟨⟨a1,a2⟩,a3⟩,a4⟩:=e2
        exact Stp.storeL ho hd (h1 _ _ hx) (h2 _ _ hb) (h1 _ _ hv) (V.isV_or a1) (ok.sz hk) (QaL a2) a3 a4 rfl
       cases e
      cases e
     cases e
    cases e
   cases e
  cases e
 | st r rs'=>
  dsimp only at e
  split at e
  ·cases e
  rename_i hd
  split at e
  ·rename_i Tx x y ho
   split at e
   ·rename_i b i off hx
    split at e
    ·rename_i v hv
     split at e
     ·rename_i z rs hb
      split at e
      ·rename_i k hk
       replace e:=Qaf e;obtain⟨e2,e⟩:=e
       cases e
       simp only [QB]at e2
       obtain⟨⟨⟨⟨a1,a2⟩,a3⟩,a4⟩,a5⟩:=e2
       exact Stp.storeA ho hd (h1 _ _ hx) (h2 _ _ hb) hq.1 (h1 _ _ hv) (V.isV_or a1) (ok.sz hk) (QaL a2) a3 a4 a5 hq.2
      cases e
     cases e
    cases e
   cases e
  cases e
 | app rs' m=>
  dsimp only at e
  split at e
  ·rename_i d hd
   split at e
   ·rename_i c ho
    obtain⟨ce,ags,ts⟩:=c
    split at e
    ·rename_i hce
     dsimp only at hce e;subst hce
     split at e
     ·rename_i x y hxy
      split at e
      ·rename_i Tx Ty hT
       split at e
       ·rename_i b k hx
        split at e
        ·rename_i v hv
         split at e
         ·rename_i z rs hb
          split at e
          ·rename_i et z' by_ hes
           split at e
           ·rename_i zs hz
            replace e:=Qaf e;obtain⟨e1,e⟩:=e
            simp only [QB,Qe4]at e1
            obtain⟨⟨⟨⟨⟨⟨a1,a2⟩,a3⟩,a4⟩,a5⟩,a6⟩,a7⟩:=e1
            have a4:=QaL a4;subst a4
            have a5:=QaL a5
            have a6:z≠0:=fun h0=>by rw [h0]at a6;cases a6
            rw [<-hn]at a2
            obtain⟨⟨e2,z2,by2⟩,hU⟩:∃q,Qav P Ty=some q:=by
             cases hl:look T.es Ty with
             | none=>rw [hl]at a1;cases a1
             | some q=>exact⟨q,ok.es hl⟩
            have ea:ags=#[x,y]:=by rw [<-Qql (xs:=ags),hxy]
            have et:ts=#[Tx,Ty]:=by rw [<-Qql (xs:=ts),hT]
            subst ea;subst et
            split at e
            ·rename_i z'' us
             replace e:=Qaf e;obtain⟨e3,e⟩:=e
             have:=QaL e3;subst this
             cases e
             obtain⟨h4,h5,h6,h7⟩:=hq
             exact Stp.appS ho hd a2 (h1 _ _ hx) (h2 _ _ hb) a3 h4 (ok.es hes) hU (ok.zv hz) a5 a6 a7 h5 (h1 _ _ hv) h6 h7
            cases e
           cases e
          cases e
         cases e
        cases e
       cases e
      cases e
     cases e
    cases e
   cases e
  cases e
theorem QtU {obj:Bool}{o:Oper}{t:Nat}{fo:Bool}{ms:List Mut}:∀{ri:List (It×Nat)} {i:Nat} {x:DF},i=ri.length->Qnp obj o t fo ms ri i=some x->
  ∃k fl nf j,ri.reverse[k]? = some (.add x fl nf,j)/\QkS o k=true/\x.d=t/\(bif fo then fl else bif obj then Qrc x fl (ms.drop j)else alv x fl (ms.drop j))=true:=by
 intro ri
 induction ri with
 | nil=>intro i x hi h;subst hi;cases h
 | cons y ri ih=>
  intro i x hi h
  subst hi
  have up:∀{x:DF},(∃k fl nf j,ri.reverse[k]? = some (.add x fl nf,j)/\QkS o k=true/\x.d=t/\(bif fo then fl else bif obj then Qrc x fl (ms.drop j)else alv x fl (ms.drop j))=true)->∃k fl nf j,(y::ri).reverse[k]? = some (.add x fl nf,j)/\QkS o k=true/\x.d=t/\(bif fo then fl else bif obj then Qrc x fl (ms.drop j)else alv x fl (ms.drop j))=true:=by
   rintro x ⟨k,fl,nf,j,h1,h2⟩
   refine⟨k,fl,nf,j,?_,h2⟩
   rw [List.reverse_cons,Qbf (QT.1 h1).1];exact h1
  obtain⟨it,j⟩:=y
  cases it with
  | tn M=>rw [QeP,Qnp]at h;exact up (ih rfl h)
  | add z fl nf=>
   rw [QeP,Qnp]at h
   cases hb:(Nat.beq z.d t&&QkS o ri.length&&(bif fo then fl else bif obj then Qrc z fl (ms.drop j)else alv z fl (ms.drop j)))with
   | true=>
    rw [hb]at h;cases h
    simp only [QB]at hb
    exact⟨ri.length,fl,nf,j,by simp,hb.1.2,QaL hb.1.1,hb.2⟩
   | false=>rw [hb]at h;exact up (ih rfl h)
theorem Qsy {o:Oper}{f:Nat->Option V}{σ:St}{b:Bool}(hw:Qfx ops o f=some b)(hx:∀t u,f t=some u->look σ.fr t=some u):Qfx ops o (look σ.fr)=some b:=by
 unfold Qfx at hw ⊢
 cases hg:o.guard with
 | none=>simp only [hg]at hw ⊢;exact hw
 | some p=>
  obtain⟨j,t⟩:=p
  simp only [hg]at hw ⊢
  cases hj:ops[j]? with
  | none=>simp only [hj]at hw;cases hw
  | some oj=>
   simp only [hj]at hw ⊢
   cases hd:oj.dst with
   | none=>simp only [hd]at hw;cases hw
   | some d=>
    simp only [hd]at hw ⊢
    cases hf:f d with
    | none=>simp only [hf]at hw;cases hw
    | some v=>
     have:=hx d v hf
     simp only [hf]at hw
     simp only [this]
     exact hw
theorem QbO.want {o:Oper}{σ σ':St}(h:Qfx ops o (look σ.fr)=some true)(hs:Stp P C o σ σ'):QbO P C ops o σ σ':=by
 rcases QnA h with⟨hg,_⟩|⟨j,t,d',hg,hj,⟨u,hu,hb⟩|⟨_,hb⟩⟩
 ·exact QbO.run hg hs
 ·exact QbO.runG hg hj hu (by simpa using hb.symm) hs
 cases hb
theorem QbO.unwant {o:Oper}{σ:St}{d:Nat}(h:Qfx ops o (look σ.fr)=some false)(hd:o.dst=some d)(hn:Nat.ble (d+1) C.n=true):QbO P C ops o σ (σ.put d (.lit undef)):=by
 rcases QnA h with⟨_,hb⟩|⟨j,t,d',hg,hj,⟨u,hu,hb⟩|⟨hu,_⟩⟩
 ·cases hb
 ·have:u=!t:=by cases u<;>cases t<;>first | rfl | cases hb
  exact QbO.pass hg hj hu this hd hn
 exact QbO.passU hg hj hu hd hn
theorem QxB (ok:QdJ P T)(hN:Qdb P C n){D:Dr}:∀(ds:List Dw) {l:List Oper} {i:Nat} {ri:List (It×Nat)} {ms:List Mut} {B:St} {φ:Prop},QgY P C T n ops S ds l i ri ms B φ=some D->i=ri.length->l=ops.toList.drop i->ms=QU (QaM ri)->B=bof base ms->
  (∀k it j,ri.reverse[k]? = some (it,j)->j=j0 (QaM ri) k)->D.φ->
  φ/\D.ri.length=i+ds.length/\(∃r,QaM D.ri=QaM ri++r)/\D.ms=QU (QaM D.ri)/\D.B=bof base D.ms/\(∀k it j,D.ri.reverse[k]? = some (it,j)->j=j0 (QaM D.ri) k)/\
   ∀k o it,i<=k->ops[k]? = some o->(QaM D.ri)[k]? = some it->Qru P C ops base S (QaM D.ri) k o it:=by
 have hn:=hN.n
 intro ds
 induction ds with
 | nil=>
  intro l i ri ms B φ h hi hl hms hB hj hφ
  cases h
  refine⟨hφ,by simp [hi],⟨[],by simp⟩,hms,hB,hj,fun k o it hk ho hit=>?_⟩
  have:=(QT.1 hit).1
  simp [QaM]at this;omega
 | cons d ds ih=>
  intro l i ri ms B φ h hi hl hms hB hj hφ
  cases l with
  | nil=>cases d<;>cases h
  | cons o l=>
   have ho:ops[i]? = some o:=by
    have:=congrArg (fun x=>x[0]?) hl
    simpa using this.symm
   have hl':l=ops.toList.drop (i+1):=by
    have:=congrArg List.tail hl
    simpa using this
   have hlen:(QaM ri).length=i:=by simp [QaM,hi]
   have grow:∀(it:It) (φ0:Prop) (ms':List Mut) (B':St),ms'=QU (QaM ri++[it])->B'=bof base ms'->QgY P C T n ops S ds l (i+1) ((it,ms.length)::ri) ms' B' φ0=some D->
     (φ0->φ/\∀its:List It,(∃r,its=QaM ri++(it::r))->Qru P C ops base S its i o it)->
     φ/\D.ri.length=i+(ds.length+1)/\(∃r,QaM D.ri=QaM ri++r)/\D.ms=QU (QaM D.ri)/\D.B=bof base D.ms/\(∀k it j,D.ri.reverse[k]? = some (it,j)->j=j0 (QaM D.ri) k)/\
      ∀k o it,i<=k->ops[k]? = some o->(QaM D.ri)[k]? = some it->Qru P C ops base S (QaM D.ri) k o it:=by
    intro it φ0 ms' B' hms' hB' h hstep
    have hio:QaM ((it,ms.length)::ri)=QaM ri++[it]:=by simp [QaM]
    obtain⟨h1,h2,⟨r,h3⟩,h4,h5,h6,h7⟩:=ih h (by simp [hi]) hl' (by rw [hio];exact hms') hB' (fun k it' j hk=>by
     rw [hio]
     rw [List.reverse_cons]at hk
     by_cases hlt:k<ri.length
     ·rw [Qbf (by simpa using hlt)]at hk
      rw [hj k it' j hk];unfold j0
      rw [Qsa (by omega)]
     rw [Qcf (by simp;omega)]at hk
     have:k-ri.reverse.length=0:=by
      have:=(QT.1 hk).1;simpa using this
     rw [this]at hk;simp at hk
     obtain⟨rfl,rfl⟩:=hk
     have hk2:k=ri.length:=by simp at this;omega
     unfold j0
     rw [Qsa (by omega),hms,QgB (by omega)]) hφ
    obtain⟨h8,h9⟩:=hstep h1
    rw [hio,Qgb]at h3
    refine⟨h8,by omega,⟨_,h3⟩,h4,h5,h6,fun k o' it' hk ho' hit=>?_⟩
    rcases QeR i k with hlt | hge
    ·exact h7 k o' it' hlt ho' hit
    have:k=i:=by omega
    subst this
    rw [ho]at ho';cases ho'
    have:(QaM D.ri)[k]? = some it:=by rw [h3,Qcf (by omega),hlen];simp
    rw [this]at hit;cases hit
    exact h9 _ ⟨r,h3⟩
   have place:∀{its:List It} {it:It} {r:List It},its=QaM ri++(it::r)->(QU its).take (j0 its i)=ms/\∀k it' j,ri.reverse[k]? = some (it',j)->its[k]? = some it'/\j=j0 its k:=by
    intro its it r hits
    have h1:its.take i=QaM ri:=by rw [hits,Qsa (by omega),QgB (by omega)]
    refine⟨?_,fun k it' j hk=>⟨?_,?_⟩⟩
    ·unfold j0;rw [h1,hits,Qgu,<-hms];simp
    ·have hk2:(QaM ri)[k]? = some it':=by simp only [QaM,<-List.map_reverse,Qak,hk,Qfu]
     rw [hits,Qbf (QT.1 hk2).1];exact hk2
    have hkl:=(QT.1 hk).1
    rw [hj k it' j hk];unfold j0
    rw [hits,Qsa (by simp at hkl;omega)]
   have envB:∀{its:List It} {it:It} {r:List It} {σ:St},its=QaM ri++(it::r)->Sub σ B->(∀k y fl nf,its[k]? = some (.add y fl nf)->QkS o k=true->Qml σ y fl (ms.drop (j0 its k)))->
     (∀x u,Qpf B false ms ri i o x=some u->σ.opd x=some u)/\∀b u,Qsx B false ms ri i o b=some u->look σ.hp b=some u:=by
    intro its it r σ hits hsub hdep
    have dep:∀{t:Nat} {x:DF},Qnp false o t false ms ri i=some x->look σ.fr x.d=some x.v/\x.d=t:=fun hf=>by
     obtain⟨k,fl,nf,j,g1,g2,g3,g4⟩:=QtU hi hf
     obtain⟨g5,g6⟩:=(place hits).2 k _ j g1
     exact⟨(hdep k _ fl nf g5 g2).1 (by rw [<-g6];exact g4),g3⟩
    have depO:∀{t:Nat} {x:DF},Qnp true o t false ms ri i=some x->(∀ob,x.ob=some ob->look σ.hp x.d=some ob)/\x.d=t:=fun hf=>by
     obtain⟨k,fl,nf,j,g1,g2,g3,g4⟩:=QtU hi hf
     obtain⟨g5,g6⟩:=(place hits).2 k _ j g1
     exact⟨(hdep k _ fl nf g5 g2).2 (by rw [<-g6];exact g4),g3⟩
    refine⟨fun x u hx=>?_,fun b u hx=>?_⟩
    ·cases x with
     | tmp t=>
      simp only [Qpf]at hx
      split at hx
      ·rename_i v hv;cases hx;exact hsub.1 _ _ hv
      split at hx
      ·rename_i y hy;cases hx;obtain⟨g1,g2⟩:=dep hy;subst g2;exact g1
      cases hx
     | const v=>exact hx
     | global g=>exact hx
     | func f=>exact hx
    simp only [Qsx]at hx
    split at hx
    ·rename_i v hv;cases hx;exact hsub.2 _ _ hv
    split at hx
    ·rename_i y hy;obtain⟨g1,g2⟩:=depO hy;subst g2;exact g1 _ hx
    cases hx
   have envS:∀{its:List It} {it:It} {r:List It} {σ:St},its=QaM ri++(it::r)->Sub σ S->(∀k y nf,its[k]? = some (.add y true nf)->QkS o k=true->Qsk σ y)->
     (∀x u,Qpf S true ms ri i o x=some u->σ.opd x=some u)/\∀b u,Qsx S true ms ri i o b=some u->look σ.hp b=some u:=by
    intro its it r σ hits hsub hdep
    have dep:∀{b:Bool} {t:Nat} {x:DF},Qnp b o t true ms ri i=some x->Qsk σ x/\x.d=t:=fun hf=>by
     obtain⟨k,fl,nf,j,g1,g2,g3,g4⟩:=QtU hi hf
     obtain⟨g5,g6⟩:=(place hits).2 k _ j g1
     have:fl=true:=g4
     subst this
     exact⟨hdep k _ nf g5 g2,g3⟩
    refine⟨fun x u hx=>?_,fun b u hx=>?_⟩
    ·cases x with
     | tmp t=>
      simp only [Qpf]at hx
      split at hx
      ·rename_i v hv;cases hx;exact hsub.1 _ _ hv
      split at hx
      ·rename_i y hy;cases hx;obtain⟨g1,g2⟩:=dep hy;subst g2;exact g1.1
      cases hx
     | const v=>exact hx
     | global g=>exact hx
     | func f=>exact hx
    simp only [Qsx]at hx
    split at hx
    ·rename_i v hv;cases hx;exact hsub.2 _ _ hv
    split at hx
    ·rename_i y hy;obtain⟨g1,g2⟩:=dep hy;subst g2;exact g1.2 _ hx
    cases hx
   have addOK:∀{x:DF} {fl nf:Bool} {φ0:Prop},QgY P C T n ops S ds l (i+1) ((.add x fl nf,ms.length)::ri) ms B φ0=some D->
     (φ0->φ/\∀σ,(∀y u,Qpf (bif fl&&!nf then S else B) (fl&&!nf) ms ri i o y=some u->σ.opd y=some u)->(∀b u,Qsx (bif fl&&!nf then S else B) (fl&&!nf) ms ri i o b=some u->look σ.hp b=some u)->(x.ob.isSome=true->look σ.hp x.d=none)->QbO P C ops o σ (σ.addF x))->
     φ/\D.ri.length=i+(ds.length+1)/\(∃r,QaM D.ri=QaM ri++r)/\D.ms=QU (QaM D.ri)/\D.B=bof base D.ms/\(∀k it j,D.ri.reverse[k]? = some (it,j)->j=j0 (QaM D.ri) k)/\
      ∀k o it,i<=k->ops[k]? = some o->(QaM D.ri)[k]? = some it->Qru P C ops base S (QaM D.ri) k o it:=by
    intro x fl nf φ0 h hs
    refine grow (.add x fl nf) φ0 ms B (by rw [Qgu];simp [QU,hms]) hB h fun h0=>?_
    obtain⟨g1,g2⟩:=hs h0
    refine⟨g1,fun its ⟨r,hits⟩=>?_⟩
    dsimp only [Qru]
    generalize (fl&&!nf)=ff at g2 ⊢
    cases ff with
    | true=>exact fun σ hsub hdep hf=>let ⟨a,b⟩:=envS hits hsub hdep;g2 σ a b hf
    | false=>
     intro σ hsub hdep hf
     rw [(place hits).1,<-hB]at hsub
     rw [(place hits).1]at hdep
     obtain⟨a,b⟩:=envB hits hsub hdep
     exact g2 σ a b hf
   cases d with
   | a h0 sv fl nf=>
    rw [QgY]at h
    split at h
    ·rename_i hw
     split at h
     ·rename_i dd hd
      replace h:=Qaf h;obtain⟨e1,h⟩:=h
      rw [<-hn]at e1
      have stp:∀{v:V} {ob:Option Ob} {q:Option Prop} {σ:St},ev1 P C T h0 o dd (Qpf (bif fl&&!nf then S else B) (fl&&!nf) ms ri i o) (Qsx (bif fl&&!nf then S else B) (fl&&!nf) ms ri i o)=some ⟨v,ob,q⟩->Rs.holds ⟨v,ob,q⟩->
        (∀x u,Qpf (bif fl&&!nf then S else B) (fl&&!nf) ms ri i o x=some u->σ.opd x=some u)->(∀b u,Qsx (bif fl&&!nf then S else B) (fl&&!nf) ms ri i o b=some u->look σ.hp b=some u)->(ob.isSome=true->look σ.hp dd=none)->QbO P C ops o σ (σ.addF ⟨dd,v,ob⟩):=
       fun he hq hx hh hf=>QbO.want (Qsy hw fun t u ht=>hx (.tmp t) u ht) (QtO ok hd e1 hN.g hx hh he hq hf)
      split at h
      ·rename_i v ob q he
       split at h
       ·exact addOK h fun h1=>let ⟨a,b⟩:=Qpb h1;⟨a,fun σ hx hh hf=>stp he b hx hh hf⟩
       refine addOK h fun h1=>?_
       obtain⟨h1,h2⟩:=h1
       subst h2
       obtain⟨a,b⟩:=Qpb h1
       exact⟨a,fun σ hx hh hf=>(stp he b hx hh hf).denil⟩
      cases h
     cases h
    ·rename_i hw
     split at h
     ·rename_i dd hd
      replace h:=Qaf h;obtain⟨e1,h⟩:=h
      rw [<-hn]at e1
      exact addOK h fun h1=>⟨h1,fun σ hx hh hf=>QbO.unwant (Qsy hw fun t u ht=>hx (.tmp t) u ht) hd e1⟩
     cases h
    cases h
   | m md=>
    rw [QgY]at h
    split at h
    ·rename_i hw
     split at h
     ·rename_i M q he
      refine grow (.tn M) (Qpa φ q) (ms++[M]) (M.run B) (by rw [Qgu];simp [QU,hms]) (by rw [QwG,<-hB];rfl) h fun h1=>?_
      obtain⟨a,b⟩:=Qpb (v:=.J) (ob:=none) h1
      refine⟨a,fun its ⟨r,hits⟩ σ hsub hdep=>?_⟩
      rw [(place hits).1,<-hB]at hsub
      rw [(place hits).1]at hdep
      obtain⟨hx,hh⟩:=envB hits hsub hdep
      refine QbO.want (Qsy hw fun t u ht=>hx (.tmp t) u ht) (Qyc ok hN he ?_ hx hh)
      cases q with
      | none=>trivial
      | some p=>exact b
     cases h
    cases h
def Qmm (ms:List Mut):List (It×Nat)->List (Nat×V)
 | []=>[]
 | (.add x fl _,j)::r=>bif alv x fl (ms.drop j)then(x.d,x.v)::Qmm ms r else Qmm ms r
 | (.tn _,_)::r=>Qmm ms r
def Qk3 (ms:List Mut):List (It×Nat)->List (Nat×Ob)
 | []=>[]
 | (.add x fl _,j)::r=>bif Qrc x fl (ms.drop j)then(match x.ob with | some ob=>(x.d,ob)::Qk3 ms r | none=>Qk3 ms r)else Qk3 ms r
 | (.tn _,_)::r=>Qk3 ms r
def okV (ops:Array Oper)(base S:St)(D:Dr):Bool:=Qxt ops&&QB7 ops (QaM D.ri)&&Qy5 base (QaM D.ri)&&Qxz ops D.ms (QaM D.ri)&&QxA ops (QaM D.ri) D.ms S&&QAi ops (QaM D.ri)
theorem Qsz {α:Type}{l:List (Nat×α)}:∀{ts:List Nat} {r:List (Nat×α)},QhX l ts=some r->∀p∈r,look l p.1=some p.2:=by
 intro ts
 induction ts with
 | nil=>intro r h p hp;cases h;cases hp
 | cons t ts ih=>
  intro r h p hp
  rw [QhX]at h
  split at h
  ·rename_i v hv
   split at h
   ·rename_i r' hr
    cases h
    rcases QaK.1 hp with rfl | hp
    ·exact hv
    exact ih hr p hp
   cases h
  cases h
theorem QCc {fr:List (Nat×V)}:∀{l:List (Nat×V)},(∀p∈l,look fr p.1=some p.2)->Qi3 fr l:=by
 intro l
 induction l with
 | nil=>intro _;trivial
 | cons p l ih=>intro h;exact⟨h p Qbz,ih fun q hq=>h q (Qb1 _ hq)⟩
theorem QCd {fr:List (Nat×Ob)}:∀{l:List (Nat×Ob)},(∀p∈l,look fr p.1=some p.2)->Qg9 fr l:=by
 intro l
 induction l with
 | nil=>intro _;trivial
 | cons p l ih=>intro h;exact⟨h p Qbz,ih fun q hq=>h q (Qb1 _ hq)⟩
theorem AK.draw2 {id:Nat}(ok:QdJ P T)(hN:Qdb P C n)(hmix:P.follows .mixedOrders=true)(ds:List Dw)(sts sos ts os:List Nat){sf:List (Nat×V)}{sh:List (Nat×Ob)}{fr:List (Nat×V)}{hp:List (Nat×Ob)}{ri:List (It×Nat)}{ms:List Mut}{B:St}{φ:Prop}
  (hS1:QhX base.fr sts=some sf) (hS2:QhX base.hp sos=some sh)
  (e:QgY P C T n ops ⟨sf,sh⟩ ds ops.toList 0 [] [] base True=some ⟨ri,ms,B,φ⟩) (hφ:φ) (hl:ds.length=ops.size) (hk:okV ops base ⟨sf,sh⟩ ⟨ri,ms,B,φ⟩=true)
  (hf1:QhX (Qmm ms ri++B.fr) ts=some fr) (hf2:QhX (Qk3 ms ri++B.hp) os=some hp) (hc:St.closed ⟨fr,hp⟩=true) (k:AK P C Q (.x .normal) ks ⟨fr,hp⟩):AK P C Q (.c (.region id ops true)) ks base:=by
 have hn:=hN.n
 obtain⟨D,hD⟩:∃D:Dr,D=⟨ri,ms,B,φ⟩:=⟨_,rfl⟩
 rw [<-hD]at e hk
 have hφ:D.φ:=by rw [hD];exact hφ
 have hf1:QhX (Qmm D.ms D.ri++D.B.fr) ts=some fr:=by rw [hD];exact hf1
 have hf2:QhX (Qk3 D.ms D.ri++D.B.hp) os=some hp:=by rw [hD];exact hf2
 clear hD
 simp only [okV,QB]at hk
 obtain⟨⟨⟨⟨⟨k1,k2⟩,k3⟩,k4⟩,k5⟩,k6⟩:=hk
 obtain⟨_,h2,_,h4,h5,h6,h7⟩:=QxB (base:=base) ok hN ds e rfl rfl rfl rfl (fun k it j h=>by simp at h) hφ
 have hlen:(QaM D.ri).length=ops.size:=by simp [QaM];omega
 rw [h4]at k4 k5
 have hS:Sub base ⟨sf,sh⟩:=⟨fun t v h=>by
  have:=Qsz hS1 (t,v) (Qbi h);exact this,fun p ob h=>by have:=Qsz hS2 (p,ob) (Qbi h);exact this⟩
 refine AK.drawV hmix hlen k1 k2 k3 k6 k4 k5 hS (fun i o it ho hit=>h7 i o it (Qnl _) ho hit) fun σ hsub hadd=>?_
 rw [<-h4,<-h5]at hsub
 have hadd':∀x fl nf j,(It.add x fl nf,j)∈D.ri->Qml σ x fl (D.ms.drop j):=by
  intro x fl nf j hm
  obtain⟨i,hi⟩:=List.getElem?_of_mem (List.mem_reverse.2 hm)
  have hj:=h6 i _ j hi
  rw [hj,h4]
  refine hadd i x fl nf ?_
  simp only [QaM,<-List.map_reverse,Qak,hi,Qfu]
 have frOK:∀{ri:List (It×Nat)},(∀q∈ri,q∈D.ri)->∀{t:Nat} {v:V},look (Qmm D.ms ri) t=some v->look σ.fr t=some v:=by
  intro ri
  induction ri with
  | nil=>intro _ t v h;cases h
  | cons y ri ih=>
   intro hm t v h
   have hm':=fun q hq=>hm q (Qb1 _ hq)
   obtain⟨it,j⟩:=y
   cases it with
   | tn M=>exact ih hm' h
   | add x fl nf=>
    rw [Qmm]at h
    cases hal:alv x fl (D.ms.drop j)with
    | false=>rw [hal]at h;exact ih hm' h
    | true=>
     rw [hal]at h
     have h:look ((x.d,x.v)::Qmm D.ms ri) t=some v:=h
     by_cases e:x.d=t
     ·subst e;rw [Qv]at h;cases h;exact(hadd' x fl nf j (hm _ Qbz)).1 hal
     rw [Qr _ _ e]at h;exact ih hm' h
 have hpOK:∀{ri:List (It×Nat)},(∀q∈ri,q∈D.ri)->∀{t:Nat} {v:Ob},look (Qk3 D.ms ri) t=some v->look σ.hp t=some v:=by
  intro ri
  induction ri with
  | nil=>intro _ t v h;cases h
  | cons y ri ih=>
   intro hm t v h
   have hm':=fun q hq=>hm q (Qb1 _ hq)
   obtain⟨it,j⟩:=y
   cases it with
   | tn M=>exact ih hm' h
   | add x fl nf=>
    rw [Qk3]at h
    cases hal:Qrc x fl (D.ms.drop j)with
    | false=>rw [hal]at h;exact ih hm' h
    | true=>
     rw [hal]at h
     cases hob:x.ob with
     | none=>rw [hob]at h;exact ih hm' h
     | some ob=>
      rw [hob]at h
      have h:look ((x.d,ob)::Qk3 D.ms ri) t=some v:=h
      by_cases e:x.d=t
      ·subst e;rw [Qv]at h;cases h;exact(hadd' x fl nf j (hm _ Qbz)).2 hal _ hob
      rw [Qr _ _ e]at h;exact ih hm' h
 refine AK.weaken (fun a w hR=>hR.to (QCc fun p hp'=>?_) (QCd fun p hp'=>?_) hc) k
 ·have:=Qsz hf1 p hp'
  rw [QfH]at this
  cases hl:look (Qmm D.ms D.ri) p.1 with
  | some v=>rw [hl]at this;cases this;exact frOK (fun _ h=>h) hl
  | none=>rw [hl]at this;exact hsub.1 _ _ this
 have:=Qsz hf2 p hp'
 rw [QfH]at this
 cases hl:look (Qk3 D.ms D.ri) p.1 with
 | some v=>rw [hl]at this;cases this;exact hpOK (fun _ h=>h) hl
 | none=>rw [hl]at this;exact hsub.2 _ _ this
end
theorem Stp.callSame {P:Program}{C:Ctx}{T:Tab}{n:Nat}{o:Oper}{md:MD}{f:Operand->Option V}{hp:Nat->Option Ob}{σ:St}{d:Nat}{v:V}{q:Prop}(ok:QdJ P T)(hN:Qdb P C n)(h1:∀x u,f x=some u->σ.opd x=some u)(h2:∀b u,hp b=some u->look σ.hp b=some u)
  (e:mu1 P C T n md o f hp=some (⟨[],[],some (d,v)⟩,some q)) (hq:q):Stp P C o σ (σ.addF ⟨d,v,none⟩):=Qyc (q:=some q) ok hN e hq h1 h2
theorem QsA {α:Type}{f:α->List V}{l:List α}{k h:Nat}:((l.map f).drop k).take (h-k)=((l.drop k).take (h-k)).map f:=by simp
end Go.Vm
namespace Go.Vm
open Go Go.RowKit
section
variable {P:Program}{C:Ctx}{σ:St}{o:Oper}
def QxC (P:Program)(T:TypeId)(k:IntKind):Bool:=match P.underlying T with
 | some (.int q)=>ikB q k
 | _=>false
theorem Qy7 {T:TypeId}{k:IntKind}(h:QxC P T k=true):P.underlying T=some (.int k):=by
 unfold QxC at h
 split at h
 ·rename_i q hq;rw [hq,QyT h]
 cases h
theorem Stp.convI {S T d:Nat}{x:Operand}{k k':IntKind}{n:Int}(ho:o.op=.convert S T x)(hd:o.dst=some d)(hn:Nat.ble (d+1) C.n=true)(hx:σ.opd x=some (.i k' n))(hs:QxC P S k'=true)(hT:QxC P T k=true):Stp P C o σ (σ.put d (.i k (k.wrap n))):=by
 refine Stp.same hd hn fun φ a w hr=>⟨.int k (k.wrap n),?_,.dat (.i _ _)⟩
 simp [execOp,ho,(hr.opd hx).i_inv,convert,run_underlying (Qy7 hs),run_underlying (Qy7 hT),Conv.intToInt]
def QAp (k:IntKind)(m n:Int):Int:=k.wrap (m*2 ^ (min n.toNat k.bits))
def Qen (k:IntKind)(m n:Int):Int:=m.fdiv (2 ^ (min n.toNat k.bits))
theorem Stp.shl {x y:Operand}{T U d:Nat}{k k':IntKind}{m n:Int}(ho:o.op=.binOp .shl T x y U)(hd:o.dst=some d)(hn:Nat.ble (d+1) C.n=true)(hx:σ.opd x=some (.i k m))(hy:σ.opd y=some (.i k' n))(h0:0<=n):Stp P C o σ (σ.put d (.i k (QAp k m n))):=by
 refine Stp.same hd hn fun φ a w hr=>⟨.int k _,?_,.dat (.i _ _)⟩
 have:¬n<0:=by omega
 simp [execOp,ho,(hr.opd hx).i_inv,(hr.opd hy).i_inv,eqGuard,binOp,Op.shift,this,QAp]
theorem Stp.shr {x y:Operand}{T U d:Nat}{k k':IntKind}{m n:Int}(ho:o.op=.binOp .shr T x y U)(hd:o.dst=some d)(hn:Nat.ble (d+1) C.n=true)(hx:σ.opd x=some (.i k m))(hy:σ.opd y=some (.i k' n))(h0:0<=n):Stp P C o σ (σ.put d (.i k (Qen k m n))):=by
 refine Stp.same hd hn fun φ a w hr=>⟨.int k _,?_,.dat (.i _ _)⟩
 have:¬n<0:=by omega
 simp [execOp,ho,(hr.opd hx).i_inv,(hr.opd hy).i_inv,eqGuard,binOp,Op.shift,this,Qen]
def QdQ (k:IntKind)(m n:Int):Int:=k.wrap ((BitVec.ofInt k.bits m &&& BitVec.ofInt k.bits n).toNat:Int)
theorem Stp.andB {x y:Operand}{T U d:Nat}{k:IntKind}{m n:Int}(ho:o.op=.binOp .and T x y U)(hd:o.dst=some d)(hn:Nat.ble (d+1) C.n=true)(hx:σ.opd x=some (.i k m))(hy:σ.opd y=some (.i k n)):Stp P C o σ (σ.put d (.i k (QdQ k m n))):=
 Stp.same hd hn fun φ a w hr=>⟨.int k _,by simp [execOp,ho,(hr.opd hx).i_inv,(hr.opd hy).i_inv,eqGuard,binOp,Op.intBits,QdQ],.dat (.i _ _)⟩
def Qhv : List V->Option (List Value)
 | []=>some []
 | .i k n::r=>(Qhv r).map (.int k n::·)
 | .b x::r=>(Qhv r).map (.bool x::·)
 | .s x::r=>(Qhv r).map (.string x::·)
 | _=>none
theorem QBc {φ:Nat->Option Blk}{I:Nat->Prop}{w:World}:∀{cs:List V} {vs xs:List Value},Qhv cs=some vs->xs.length=cs.length->(∀(j:Nat) x v,xs[j]? = some x->cs[j]? = some v->Rep φ I w x v)->xs=vs:=by
 intro cs
 induction cs with
 | nil=>intro vs xs h hl _;cases h;exact List.eq_nil_of_length_eq_zero hl
 | cons c cs ih=>
  intro vs xs h hl hr
  cases xs with
  | nil=>cases hl
  | cons x xs=>
   have h0:=hr 0 x c rfl rfl
   have hi:∀{us:List Value},Qhv cs=some us->xs=us:=fun e=>ih e (by simpa using hl) fun j x v a b=>hr (j+1) x v a b
   cases c with
   | i k n=>simp only [Qhv,Qas]at h;obtain⟨us,e,rfl⟩:=h;rw [h0.i_inv,hi e]
   | b k=>simp only [Qhv,Qas]at h;obtain⟨us,e,rfl⟩:=h;rw [h0.b_inv,hi e]
   | s k=>simp only [Qhv,Qas]at h;obtain⟨us,e,rfl⟩:=h;rw [h0.s_inv,hi e]
   | _=>cases h
theorem Rep.aggVals {φ:Nat->Option Blk}{I:Nat->Prop}{w:World}{x:Value}{cs:List V}{vs:List Value}(h:Rep φ I w x (.agg cs))(hv:Qhv cs=some vs):x=.agg vs.toArray:=by
 obtain⟨xs,rfl,hs,hr⟩:=h.agg_inv
 have:=QBc (xs:=xs.toList) hv (by simpa using hs) fun j x v a b=>hr j x v (by simpa using a) b
 rw [<-this]
def EqT (P:Program)(T:TypeId)(vs us:List Value)(r:Bool):Prop:=P.eqGuardType P.depth T=false/\∀w,(Op.equalIn 10000 T (.agg vs.toArray) (.agg us.toArray)).run P w=.ok r w
theorem Stp.eqAgg {x y:Operand}{T U d:Nat}{cs ds:List V}{vs us:List Value}{r:Bool}(ho:o.op=.binOp .eql T x y U)(hd:o.dst=some d)(hn:Nat.ble (d+1) C.n=true)(hx:σ.opd x=some (.agg cs))(hy:σ.opd y=some (.agg ds))(hv:Qhv cs=some vs)(hu:Qhv ds=some us)(he:EqT P T vs us r):
  Stp P C o σ (σ.put d (.b r)):=by
 refine Stp.same hd hn fun φ a w hr=>⟨.bool r,?_,.dat (.b _)⟩
 have h1:=(hr.opd hx).aggVals hv
 have h2:=(hr.opd hy).aggVals hu
 have h3:=he.2 w
 simp only [execOp,ho,h1,h2,eqGuard,Sem.run_bind,run_program,Result.andThen_ok,he.1]
 simp [binOp,Op.equal,Op.maxDepth,h3,he.1]
theorem Stp.neAgg {x y:Operand}{T U d:Nat}{cs ds:List V}{vs us:List Value}{r:Bool}(ho:o.op=.binOp .neq T x y U)(hd:o.dst=some d)(hn:Nat.ble (d+1) C.n=true)(hx:σ.opd x=some (.agg cs))(hy:σ.opd y=some (.agg ds))(hv:Qhv cs=some vs)(hu:Qhv ds=some us)(he:EqT P T vs us r):
  Stp P C o σ (σ.put d (.b (!r))):=by
 refine Stp.same hd hn fun φ a w hr=>⟨.bool (!r),?_,.dat (.b _)⟩
 have h1:=(hr.opd hx).aggVals hv
 have h2:=(hr.opd hy).aggVals hu
 have h3:=he.2 w
 simp only [execOp,ho,h1,h2,eqGuard,Sem.run_bind,run_program,Result.andThen_ok,he.1]
 simp [binOp,Op.equal,Op.maxDepth,h3,he.1]
end
section
variable {P:Program}{C:Ctx}{σ:St}{Q:Exit->St->Prop}{ks:List Fr}{ops:Array Oper}{rest:List Oper}{o:Oper}
theorem AK.eqNil {x y:Operand}{T U d e z:Nat}{rows:List (List V)}(hg:o.guard=none)(ho:o.op=.binOp .eql T x y U)(hd:o.dst=some d)(hn:Nat.ble (d+1) C.n=true)(hx:σ.opd x=some (.sl z rows))(hy:σ.opd y=some (.lit (.slice none 0 0)))(hT:P.underlying T=some (.slice e))
  (h1:rows=[]->AK P C Q (.o ops rest) ks (σ.put d (.b true))) (h2:AK P C Q (.o ops rest) ks (σ.put d (.b false))):AK P C Q (.o ops (o::rest)) ks σ:=by
 intro a w hR
 obtain⟨φ,hr⟩:=hR
 have hyv:a.eval y=.slice none 0 0:=(hr.opd hy).lit_inv
 have run:∀p l c,a.eval x=.slice p l c->(execOp a.eval o).run P w=.ok (.value (.bool p.isNone)) w:=fun p l c e=>by
  simp [execOp,ho,e,hyv,eqGuard,binOp,run_equal_slice_nil w T _ p l c hT]
 have go:∀{v:Bool} {σ':St},(execOp a.eval o).run P w=.ok (.value (.bool v)) w->σ'=σ.put d (.b v)->AK P C Q (.o ops rest) ks σ'->wpListIn C.F 0 P ops (up C (unw P C Q ks)) (o::rest) a w:=fun {v σ'} e e2 k=>by
  have:Stp P C { o with op:=.move (.const (.bool v)) } σ (σ.put d (.b v)):=Stp.move rfl hd hn rfl
  simp only [wpListIn,Region.wanted,hg,if_true]
  refine⟨fun _ _=>trivial,?_⟩
  rw [Qwv e,Oper.uponIn_value]
  subst e2
  refine k _ _ ⟨φ,?_⟩
  rw [hd]
  exact hr.put (Qaj hn) (.dat (.b _))
 rcases(hr.opd hx).sl_inv with⟨p,c,he,h0⟩|⟨b,off,cap,he,_⟩
 ·cases p with
  | none=>exact go (run none 0 c he) rfl (h1 h0)
  | some p=>exact go (run (some p) 0 c he) rfl h2
 exact go (run _ _ _ he) rfl h2
end
section
variable {P:Program}{C:Ctx}{σ:St}{o:Oper}
theorem Stp.buildAny {T d e z by_ n:Nat}{parts:Array (Nat×Operand)}{zs vs:List V}{qs:List (Nat×V)}(ho:o.op=.buildSlice T n parts)(hd:o.dst=some d)(hn:Nat.ble (d+1) C.n=true)
  (hT:Qav P T=some (e,z,by_)) (hz:QaF P e=some zs) (hzl:zs.length=z) (hz0:z≠0) (hbig:n*z<=16777216) (hq:σ.opds parts.toList=some qs) (hv:qs.all (fun q=>q.2.isV)=true)
  (hf:Qfw (fun i=>some (i*z,z)) ((List.range (n*z)).map fun k=>zs.getD (k % z) .J) qs=some vs)
  (hfr:look σ.hp d=none):Stp P C o σ ((σ.set d (.var vs)).put d (.own d n)):=by
 refine Stp.val fun φ a w hr=>?_
 obtain⟨hu,i,hi,hi1,_⟩:=Qcu hT
 obtain⟨i',zv,hi',hz',rfl⟩:=QhP hz
 rw [hi]at hi';cases hi'
 have hzs:zv.cells.size=i.size:=by rw [hi1];simpa using hzl
 have hf0:=hf
 rw [<-hi1]at hf
 rw [<-Qsg zv.cells n i.size hzs (by omega)]at hf
 obtain⟨xs',h1,h2,h3⟩:=hr.fill hq hv hf
 refine⟨.slice (some ⟨w.heap.size,0,none⟩) n n,w.alloc (.cells xs' e),ext φ d ⟨w.heap.size,n,1,[],0⟩,?_,?_⟩
 ·have e2:(parts.map fun p=>(p.1,a.eval p.2)).toList=parts.toList.map fun p=>(p.1,a.eval p.2):=by simp
  have hb:¬(n*i.size > 2 ^ 24):=by rw [hi1];omega
  by_cases hn0:n*i.size=0
  ·have hn1:n=0:=by
    rw [hi1]at hn0
    rcases Nat.mul_eq_zero.1 hn0 with h | h
    ·exact h
    exact absurd h hz0
   subst hn1
   simp only [Qme]at h1
   rw [Qxr,Array.map_empty]at h1
   simp only [execOp,ho,Instr.buildSlice,Sem.run_bind,run_underlying hu,Result.andThen_ok,sizeOf,typeInfo,run_program,hi,Sem.run_pure,Qme,if_true,e2,Qxr,Array.map_empty]
   simp [h1,newRow]
  simp only [execOp,ho,Instr.buildSlice,Sem.run_bind,run_underlying hu,Result.andThen_ok,sizeOf,typeInfo,run_program,hi,Sem.run_pure,if_neg hb,if_neg hn0,zeroValue,hz',e2,h1,newRow,run_newObj]
  simp
 have hN:=hr.none_of_look hfr
 have hnew:=hr.alloc (cap:=n) (z:=1) hfr (C.slot hn) (ob:=.var vs) (obj:=.cells xs' e)
  ⟨xs',e,heap_alloc_new w _,h2,rfl,fun j x v hx hv'=>(h3 j x v hx hv').mono (hr.mono_ext _ hN) (hr.imm_alloc d n 1 _ hN)⟩
 rw [hd]
 refine hnew.put (Qaj hn) ?_
 exact .own d n ⟨w.heap.size,n,1,[],0⟩ (Q8 _ _ _) (Qb2 _)
theorem Stp.idxV {T d e z by_ b n m:Nat}{x y:Operand}{cs:List V}{k:IntKind}{j:Int}(ho:o.op=.indexAddr T x y)(hd:o.dst=some d)(hn:Nat.ble (d+1) C.n=true)
  (hx:σ.opd x=some (.own b n)) (hy:σ.opd y=some (.i k j)) (hT:Qav P T=some (e,z,by_)) (hb:look σ.hp b=some (.var cs)) (h0:(0<=j/\j<n)/\j.toNat*z=m):
  Stp P C o σ (σ.put d (.loc b 0 m)):=by
 refine Stp.same hd hn fun φ a w hr=>?_
 obtain⟨⟨h0,h1⟩,rfl⟩:=h0
 rcases(hr.opd hx).own_inv with⟨_,rfl⟩|⟨B,hB,hcap,he⟩
 ·omega
 refine⟨.pointer (some ⟨B.b,B.off+(0*B.z+j.toNat*z),none⟩),?_,.loc b 0 (j.toNat*z) B hB⟩
 simp only [execOp,ho,he,(hr.opd hy).i_inv,Sem.run_bind,Qmf hT h0 h1,Result.andThen_ok,Sem.run_pure,Addr.add_lit,Qme,Qlr]
end
section
variable {P:Program}{C:Ctx}{Q:Exit->St->Prop}
def Rnd (P:Program)(C:Ctx)(Q:Exit->St->Prop)(ks:List Fr)(c:Code):Nat->St->Prop
 | 0,_=>False
 | n+1,σ=>AK P C Q (.c c) (.cut (Rnd P C Q ks c n)::ks) σ
theorem AK.rnd {ks:List Fr}{c:Code}{n:Nat}{σ:St}(h:AK P C Q (.c c) (.cut (Rnd P C Q ks c n)::ks) σ):Rnd P C Q ks c (n+1) σ:=h
theorem AK.loopN {ks:List Fr}{c:Code}(n:Nat){σ:St}(h:Rnd P C Q ks c n σ):AK P C Q (.c (.loop c)) ks σ:=by
 have key:∀(n:Nat) (σ:St) (a:Act) (w:World),Rnd P C Q ks c n σ->R C σ a w->Code.roundsIn C.F 0 P c (up C (unw P C Q ks)) n a w:=by
  intro n
  induction n with
  | zero=>intro σ a w h;exact h.elim
  | succ n ih=>
   intro σ a w h hR
   rw [roundsIn_succ]
   refine wpIn_mono (h a w hR) ?_
   rintro e a' w' ⟨σ',h1,h2⟩
   cases e with
   | normal=>exact ih σ' a' w' h1 h2
   | _=>exact⟨σ',h1,h2⟩
 exact fun a w hR=>wpIn_loop_rounds n (key n σ a w h hR)
end
end Go.Vm
namespace Go.Vm
open Go Go.RowKit
def QsB (cs:List V):List Tmp->List V->List V
 | p::ps,v::vs=>QsB (cs.set p v) ps vs
 | _,_=>cs
theorem Qyd {φ:Nat->Option Blk}{I:Nat->Prop}{w:World}:∀(ps:List Tmp) (ags:List Value) (vs:List V) (tm:Array Value) (cs:List V),ags.length=vs.length->tm.size=cs.length->
  (∀(j:Nat) x v,tm[j]? = some x->cs[j]? = some v->Rep φ I w x v)->(∀(j:Nat) x v,ags[j]? = some x->vs[j]? = some v->Rep φ I w x v)->
  ((ps.zip ags).foldl (fun tm p=>tm.setIfInBounds p.1 p.2) tm).size=(QsB cs ps vs).length/\∀(j:Nat) x v,((ps.zip ags).foldl (fun tm p=>tm.setIfInBounds p.1 p.2) tm)[j]? = some x->(QsB cs ps vs)[j]? = some v->Rep φ I w x v:=by
 intro ps
 induction ps with
 | nil=>intro ags vs tm cs _ h2 h3 _;cases vs<;>exact⟨h2,h3⟩
 | cons p ps ih=>
  intro ags vs tm cs h1 h2 h3 h4
  cases ags with
  | nil=>cases vs with
   | nil=>exact⟨h2,h3⟩
   | cons=>cases h1
  | cons y ags=>cases vs with
   | nil=>cases h1
   | cons v vs=>
    refine ih ags vs (tm.setIfInBounds p y) (cs.set p v) (by simpa using h1) (by simpa using h2) (fun j x u hx hu=>?_) fun j x u hx hu=>h4 (j+1) x u hx hu
    by_cases e:p=j
    ·subst e
     rw [Array.getElem?_setIfInBounds_self]at hx
     rw [List.getElem?_set_self']at hu
     split at hx
     ·rename_i hlt
      cases hx
      rw [QG (by omega)]at hu
      cases hu
      exact h4 0 _ _ rfl rfl
     cases hx
    rw [QyL e]at hx
    rw [List.getElem?_set_ne e]at hu
    exact h3 j x u hx hu
def Qrv (P:Program)(l:Nat)(K:QeS)(us:List V)(hs:List (Nat×Ob))(post:V->List (Nat×Ob)->Prop):Prop:=
 ∀(S:Nat->Prop) (φ:Nat->Option Blk) (w:World) (vals:Array Value),Ins S φ w vals us hs->QmY P S w->
  RoundIn Fence.wide 0 P l K.fn vals K.assign K.body w fun e w'=>∃x v hs' φ',e=.returned x/\post v hs'/\Outs S φ w φ' w' x v hs'
theorem QBd {C:Ctx}{n:Nat}{P:Program}{l:Nat}{f:FuncId}{tmps:Array Value}{assign body:Code}{w:World}{R:Ending->World->Prop}(h:RoundIn Fence.wide 0 P l f tmps assign body w R):RoundIn C.F n P l f tmps assign body w R:=
 ⟨trivial,fun c cs _=>h.2 c cs (room_wide _)⟩
section
variable {P:Program}{C:Ctx}{φ:Nat->Option Blk}{σ:St}{a:Act}{w:World}{o:Oper}
theorem RR.lp (h:RR C φ σ a w){b l:Nat}{K:QeS}{cs:List V}{q:Nat}(hb:look σ.hp b=some (.lp l K cs q)):∃B,φ b=some B/\QCI φ (Imm C φ w) w B l K cs q:=by
 rcases h.heap b _ hb with h | ⟨_,h⟩
 ·exact h
 exact h.elim
theorem RR.lpSet (h:RR C φ σ a w){b l:Nat}{K:QeS}{cs:List V}{q q':Nat}(hb:look σ.hp b=some (.lp l K cs q)):
  ∃r:Loop,w.heap[l]? = some (.loop r)/\r.state=lst q/\r.pending=jmp q/\RR C φ (σ.set b (.lp l K cs q')) a (w.putObj l (.loop { r with state:=lst q',pending:=jmp q' })):=by
 obtain⟨B,hB,tmps,D,rfl,h1,h2,h3,h4⟩:=h.lp hb
 refine⟨_,h2,rfl,rfl,?_⟩
 have hlt:=(h.lt b B B.b hB B.self).1
 have hk:∀k,k≠B.b->(w.putObj B.b (.loop { state:=lst q',pending:=jmp q',fn:=K.fn,tmps,params:=K.ps,assign:=K.assign,body:=K.body,defers:=D })).heap[k]? = w.heap[k]? := fun k hk=>World.putObj_heap_other hk
 refine h.write hB rfl rfl rfl World.putObj_size hk ⟨tmps,D,rfl,h1,World.putObj_heap_same hlt,h3,fun j x v hx hv=>?_⟩
 refine(h4 j x v hx hv).mono (fun _ _ h=>h) fun k hk'=>⟨⟨by rw [World.putObj_size];exact hk'.1,hk'.2⟩,hk k fun e=>hk'.2.2 b B hB (.inl e)⟩
theorem Stp.yield {d b l:Nat}{K:QeS}{cs:List V}{q:Nat}{x:Operand}{ags:Array Operand}{ts:Array TypeId}{M N:List (Nat×Nat)}{dead:List Nat}{hsC outs hsN:List (Nat×Ob)}{vs us:List V}{r r':V}(ho:o.op=.call { callee:=.value x,args:=ags,argTypes:=ts })
  (hx:σ.opd x=some (.clo (.yield l) [] [])) (hlp:look σ.hp b=some (.lp l K cs q)) (hq:q=0) (ha:σ.opsV ags.toList=some vs) (hps:vs.length=K.ps.size) (hd:o.dst=some d) (hn:Nat.ble (d+1) C.n=true) (hpg:C.pg P)
  (hnm:QcL σ M N dead outs=true) (hnd:(M.map Prod.fst).Nodup)
  (hv:Vws σ.hp false false (QeB M) (fun a b=>look M b=some a) (QsB cs K.ps.toList vs) us) (hobs:QiN σ.hp false false (QeB M) (fun a b=>look M b=some a) σ.hp M hsC)
  (hc:Qrv P l K us hsC (Gives r outs)) (hback:QiN [] false false [] (fun c b=>look N b=some c) outs N hsN) (hr':Vw [] false false [] (fun c b=>look N b=some c) r r'):
  Stp P C o σ ((σ.after dead hsN).put d r'):=by
 intro a w ⟨φ,hr⟩ next Q hnext
 subst hq
 have hN:=Names.of hnm hnd
 refine⟨fun _ _=>trivial,?_⟩
 obtain⟨h1,h2⟩:=hr.opsV _ _ ha
 obtain⟨xs,ys,hev,e1,e2,_,_⟩:=(hr.opd hx).clo_inv
 have e1:xs=#[]:=Qxp e1
 have e2:ys=#[]:=Qxp e2
 subst e1;subst e2
 obtain⟨B,hB,tmps,D,e0,_,hh,hsz,hrep⟩:=hr.lp hlp
 have hl1:(ags.toList.map a.eval).length=vs.length:=by simpa using h1
 obtain⟨s1,s2⟩:=Qyd (φ:=φ) (I:=Imm C φ w) (w:=w) K.ps.toList (ags.toList.map a.eval) vs tmps cs hl1 hsz hrep (fun j x v hx hv=>by
  simp only [Qak,Qas]at hx
  obtain⟨y,hy,rfl⟩:=hx
  exact h2 j y v hy hv)
 have hsize:(ags.map a.eval).size=K.ps.size:=by rw [<-hps,<-hl1];simp
 have hfold:(K.ps.zip (ags.map a.eval)).foldl (fun tmps (t,a)=>tmps.setIfInBounds t a) tmps=(K.ps.toList.zip (ags.toList.map a.eval)).foldl (fun tm p=>tm.setIfInBounds p.1 p.2) tmps:=by
  rw [<-Array.foldl_toList];simp
 have hex:(execOp a.eval o).run P w=.ok (.round l K.fn ((K.ps.toList.zip (ags.toList.map a.eval)).foldl (fun tm p=>tm.setIfInBounds p.1 p.2) tmps).toList.toArray K.assign K.body) w:=by
  simp only [execOp,ho,resolve,Sem.run_bind,hev,Deferred.ofValue,Sem.run_pure,Result.andThen_ok,invoke,Array.empty_append]
  rw [run_yield hh hsize,hfold]
 rw [Oper.semAt_eq _ _ _ (by rw [ho];intro c hc;cases hc),hex,Oper.uponIn_round]
 refine⟨(fun h=>by cases h),QBd ((hc _ _ w _ (Ins.of_vals hr (by simpa using s1) (fun j x v hx hv=>s2 j x v (by simpa using hx) hv) hN.injM hN.param hv hobs) ((hr.glob hpg).mono fun _ h=>.inl h)).mono ?_)⟩
 rintro e w' ⟨x,v,hs',φ',rfl,⟨rfl,hso⟩,hout⟩
 obtain⟨h3,h4⟩:=hr.after hN hout hso (fun c s h=>by
  obtain⟨ob',e1⟩:=hobs.get.2 c s h
  obtain⟨s',ob,e2,e3,_⟩:=hobs.get.1 c ob' e1
  rw [h]at e2;cases e2;exact⟨ob,e3⟩) hback
 refine hnext _ _ ⟨QjM φ M N dead φ',?_⟩
 rw [hd]
 exact h3.put (Qaj hn) (h4 hr')
def QBe (b l:Nat)(K:QeS)(post:V->List (Nat×Ob)->Prop):Exit->St->Prop
 | .normal,σ=>∃cs,look σ.hp b=some (.lp l K cs 1)/\post (.b true) ((b,.lp l K cs 0)::σ.hp)
 | .ret,σ=>∃cs,look σ.hp b=some (.lp l K cs 1)/\post (.b false) ((b,.lp l K cs 2)::σ.hp)
 | .exit k,σ=>∃cs,look σ.hp b=some (.lp l K cs 1)/\post (.b false) ((b,.lp l K cs (k+3))::σ.hp)
 | _,_=>False
theorem Qrv.walk {b l:Nat}{K:QeS}{us:List V}{hs:List (Nat×Ob)}{post:V->List (Nat×Ob)->Prop}(n:Nat)(hn:us.length=n)(hle:Nat.ble n 616=true)
  (h:∀C:Ctx,Qdb P C n->AK P C (fun e σ=>e=.normal/\∃cs,look σ.hp b=some (.lp l K cs 0)/\AK P C (QBe b l K post) (.c K.body) [] (σ.set b (.lp l K cs 1))) (.c K.assign) [] ⟨QkR 0 us,hs⟩):Qrv P l K us hs post:=by
 intro S φ w vals hi hG
 let C:Ctx:=⟨w,S,fun k=>∃o B,φ o=some B/\B.has k,n,φ,QbV hle,some l⟩
 have hF:Fence.wide.inRound l=C.F:=rfl
 have hI:∀k,S k->Imm C φ w k/\w.heap[k]? = w.heap[k]? := fun k hk=>⟨⟨hi.lt k hk,fun _=>hk,fun o B hB e=>((hi.dom o B hB).2.1 k e).2 hk⟩,rfl⟩
 have hR:R C ⟨QkR 0 us,hs⟩ { tmps:=vals,defers:=[] } w:=by
  refine⟨φ,rfl,rfl,rfl,Qb2 _,fun _ _ _=>rfl,hi.inj,fun o B hB=>(hi.dom o B hB).2.2,fun o B k hB hk=>⟨((hi.dom o B hB).2.1 k hk).1,fun _=>⟨o,B,hB,hk⟩⟩,fun o B k hB hk hlt=>absurd (hi.dom o B hB).1 (by omega),⟨fun _ _ _ h=>h,fun _ _ _ _ _ h=>h⟩,
   by show vals.size=n;rw [hi.size,hn],⟨[],rfl,List.nodup_nil,fun _ h=>by cases h⟩,fun t v hv=>?_,fun o ob hob=>?_⟩
  ·obtain⟨_,h2⟩:=QtG us 0 t v hv
   rw [Nat.sub_zero]at h2
   have hlt:t<vals.size:=by rw [hi.size];exact(QT.1 h2).1
   exact⟨vals[t],QeA hlt,(hi.args t _ v (QeA hlt) h2).mono (fun _ _ h=>h) hI⟩
  rcases hi.heap o ob hob with⟨B,hB,hr⟩|hn
  ·exact .inl ⟨B,hB,hr.mono (fun _ _ h=>h) hI fun _ _=>rfl⟩
  exact .inr hn
 refine roundIn_of_wpIn trivial ?_
 rw [hF]
 refine wpIn_mono (h C ⟨rfl,hG,fun g hg ⟨o,B,hB,hb⟩=>((hi.dom o B hB).2.1 g hb).2 (hG g hg).1⟩ _ _ hR) ?_
 rintro e a1 w1 ⟨σ1,⟨rfl,cs,hlp,hbody⟩,φ1,hr1⟩
 obtain⟨r,g1,g2,g3,g4⟩:=hr1.lpSet (q':=1) hlp
 refine⟨_,run_beginRound g1 g2,?_⟩
 have hbusy:({ r with state:=LoopState.busy }:Loop)={ r with state:=lst 1,pending:=jmp 1 }:=by
  rw [show jmp 1=r.pending from g3.symm];rfl
 rw [hbusy]
 refine wpIn_mono (hbody _ _ ⟨φ1,g4⟩) ?_
 rintro e a2 w2 ⟨σ2,hq,φ2,hr2⟩
 have fin:∀(jump:Option Code) (q:Nat) (cs2:List V),look σ2.hp b=some (.lp l K cs2 1)->jmp q=jump->(if jump.isNone then LoopState.ready else LoopState.done)=lst q->post (.b jump.isNone) ((b,.lp l K cs2 q)::σ2.hp)->
   ∃v w',(Instr.endRound l jump).run P w2=.ok v w'/\∃x v' hs' φ',Ending.returned v=.returned x/\post v' hs'/\Outs S φ w φ' w' x v' hs':=fun jump q cs2 hl2 hj hst hp=>by
  obtain⟨r2,k1,_,_,k4⟩:=hr2.lpSet (q':=q) hl2
  refine⟨_,_,run_endRound jump k1,.bool jump.isNone,.b jump.isNone,_,φ2,rfl,hp,?_⟩
  rw [hst,<-hj]
  exact⟨k4.os,k4.tape,k4.output,k4.size,fun k hk hne=>k4.kept k hk (fun ⟨o,B,hB,e⟩=>hne o B hB e),k4.inj,k4.dom,
   fun o B k hB hk=>⟨(k4.lt o B k hB hk).1,fun hlt=>(k4.lt o B k hB hk).2 hlt⟩,k4.new,k4.stay,.dat (.b _),k4.heap⟩
 cases e with
 | normal=>obtain⟨cs2,hl2,hp⟩:=hq;exact fin none 0 cs2 hl2 rfl rfl hp
 | ret=>obtain⟨cs2,hl2,hp⟩:=hq;exact fin (some .ret) 2 cs2 hl2 rfl rfl hp
 | exit k=>obtain⟨cs2,hl2,hp⟩:=hq;exact fin (some (.exit k)) (k+3) cs2 hl2 rfl rfl hp
 | _=>exact hq.elim
theorem RR.mark (h:RR C φ σ a w):RR C φ σ { a with defers:={ target:=.collected w.heap.size,args:=#[] }::a.defers } (w.alloc (.deferred (some []))):=by
 have hs:=h.step (w':=w.alloc (.deferred (some []))) rfl rfl rfl (by simp) (fun k hk=>Below.heap_alloc w _ k hk)
 refine⟨hs.os,hs.tape,hs.output,hs.size,hs.kept,hs.inj,hs.dom,hs.lt,hs.new,hs.stay,hs.tmps,?_,hs.frame,hs.heap⟩
 obtain⟨Ds,h1,h2,h3⟩:=hs.defers
 obtain⟨Ds',h1',h2',h3'⟩:=h.defers
 refine⟨w.heap.size::Ds',by simp [h1'],Qlp.2 ⟨fun hm=>absurd (h3' _ hm).2.1.1 (by omega),h2'⟩,fun D hD=>?_⟩
 rcases QaK.1 hD with rfl | hD
 ·refine⟨h.size,⟨by simp,fun hlt=>absurd h.size (by omega),fun o B hB hh=>absurd (h.lt o B _ hB hh).1 (by omega)⟩,World.alloc_heap_new w _⟩
 obtain⟨a1,a2,a3⟩:=h3' D hD
 exact⟨a1,⟨by have:=a2.1;simp;omega,a2.2⟩,(Below.heap_alloc w _ D a2.1).trans a3⟩
theorem RR.killTo (h:RR C φ σ a w){b:Nat}{B:Blk}(hB:φ b=some B){w':World}(ho:w'.os=w.os)(ht:w'.tape=w.tape)(hu:w'.output=w.output)(hs:w'.heap.size=w.heap.size)(hk:∀k,k≠B.b->w'.heap[k]? = w.heap[k]?):RR C (del φ b) (σ.kill b) a w':=by
 have hI:∀k,Imm C φ w k->Imm C (del φ b) w' k/\w'.heap[k]? = w.heap[k]? := fun k hk'=>⟨⟨by rw [hs];exact hk'.1,hk'.2.1,fun o B' hB'=>hk'.2.2 o B' (Qb3 hB').2⟩,hk k fun e=>hk'.2.2 b B hB (.inl e)⟩
 have hφ:∀o B,o≠b->φ o=some B->del φ b o=some B:=fun o B ho hB=>by rw [Qec ho];exact hB
 refine⟨ho.trans h.os,ht.trans h.tape,hu.trans h.output,by rw [hs];exact h.size,fun k h1 h2=>(hk k fun e=>h2 ((h.lt b B k hB (.inl e)).2 h1)).trans (h.kept k h1 h2),fun o o' B B' k h1 h2=>h.inj o o' B B' k (Qb3 h1).2 (Qb3 h2).2,?_,fun o B k hB=>by rw [hs];exact h.lt o B k (Qb3 hB).2,fun o B k hB=>h.new o B k (Qb3 hB).2,
  ⟨fun o B h1 hB=>h.stay.1 o B h1 (Qb3 hB).2,fun o ob B h1 ho hB=>by obtain⟨hne,ob',h2,_⟩:=QcS _ _ _ ho;rw [Qec hne];exact h.stay.2 o ob' B h1 h2 hB⟩,h.tmps,h.defers.mono hI,?_,?_⟩
 ·intro o B hB
  obtain⟨h1,h2⟩:=Qb3 hB
  obtain⟨ob,hob⟩:=h.dom o B h2
  exact⟨_,QfT _ _ _ h1 hob⟩
 ·intro t v hv
  obtain⟨v',hv',rfl⟩:=Qnn _ _ _ hv
  obtain⟨x,hx,hr⟩:=h.frame t v' hv'
  exact⟨x,hx,hr.kill hφ hI⟩
 intro o ob hob
 obtain⟨hne,ob',hob',rfl⟩:=QcS _ _ _ hob
 rcases h.heap o ob' hob' with⟨B',hB',hr⟩|⟨h1,hz⟩
 ·exact .inl ⟨B',hφ o B' hne hB',hr.kill hφ hI fun k hk'=>hk k fun e=>hne (h.inj o b B' B k hB' hB hk' (.inl e))⟩
 exact .inr ⟨by rw [Qec hne];exact h1,hz.kill⟩
def snap (ts:List Nat)(fr:List (Nat×V))(n:Nat):List V:=(List.range n).map fun t=>bif Qab ts t then(match look fr t with
 | some v=>v
 | none=>.J)else .J
theorem RR.snap {ts:List Nat}(h:RR C φ σ a w):∀(j:Nat) x v,a.tmps[j]? = some x->(snap ts σ.fr C.n)[j]? = some v->Rep φ (Imm C φ w) w x v:=by
 intro j x v hx hv
 simp only [Vm.snap,Qak,Qas]at hv
 obtain⟨t,ht,rfl⟩:=hv
 obtain⟨_,rfl⟩:=QT.1 ht
 simp only [QuI]at *
 cases hm:Qab ts j with
 | false=>exact .dat (.J _)
 | true=>
 simp only [cond_true]
 split
 ·rename_i v hv
  obtain⟨y,hy,hr⟩:=h.frame _ _ hv
  rw [hx]at hy;cases hy;exact hr
 exact .dat (.J _)
def rgV (P:Program)(σ:St)(f:Nat)(vs:List V)(M N:List (Nat×Nat))(dead:List Nat)(ms:List Qel)(outs:List (Nat×Ob))(r:V):Option (St×Prop):=
 bif QcL σ M N dead outs&&QeY (M.map Prod.fst)&&QeY (N.map Prod.fst)then match Qke (bkM M) ms vs with
  | some us=>match Qgq (bkM M) (look σ.hp) M with
   | some hsC=>match Qgq (bkM N) (look outs) N with
    | some hsN=>some (σ.after dead hsN,Qc P f us hsC (Gives r outs))
    | none=>none
   | none=>none
  | none=>none
 else none
def atJ (p:Prop)(f:Code->Prop):Option Code->Prop
 | none=>p
 | some c=>f c
end
section
variable {P:Program}{C:Ctx}{φ:Nat->Option Blk}{σ:St}{a:Act}{w:World}{o:Oper}
def QtV (P:Program)(T:TypeId)(i:Nat):Option (Nat×Bool×Nat):=match P.underlying T with
 | some (.struct fs)=>match fs[i]? with
  | some f=>match Qgp P f.type with
   | some g=>match QgC P f.type with
    | some n=>some (f.offset,g,n)
    | none=>none
   | none=>none
  | none=>none
 | _=>none
theorem QAq {T i off n:Nat}{g:Bool}(h:QtV P T i=some (off,g,n)):∃(fs:Array Field) (f:Field),P.underlying T=some (.struct fs)/\fs[i]? = some f/\f.offset=off/\Qgp P f.type=some g/\QgC P f.type=some n:=by
 unfold QtV at h
 split at h
 ·rename_i fs hu
  split at h
  ·rename_i f hf
   split at h
   ·rename_i g' hg
    split at h
    ·rename_i n' hn;cases h;exact⟨fs,f,hu,hf,rfl,hg,hn⟩
    cases h
   cases h
  cases h
 cases h
theorem Stp.field {T i d off n:Nat}{g:Bool}{x:Operand}{cs:List V}{v:V}(ho:o.op=.field T x i)(hd:o.dst=some d)(hn:Nat.ble (d+1) C.n=true)(hx:σ.opd x=some (.agg cs))(hT:QtV P T i=some (off,g,n))
  (hv:(bif g then some (.agg ((cs.drop off).take n))else cs[off]?)=some v):Stp P C o σ (σ.put d v):=by
 refine Stp.same hd hn fun φ a w hr=>?_
 obtain⟨fs,f,hu,hf,rfl,hg,hsz⟩:=QAq hT
 obtain⟨xs,he,hs,hc⟩:=(hr.opd hx).agg_inv
 cases g with
 | true=>
  cases hv
  refine⟨.agg (xs.extract f.offset (f.offset+n)),?_,.agg _ _ (by simp;omega) fun j x v hj hv=>?_⟩
  ·simp only [execOp,ho,he,Instr.field,Sem.run_bind,run_underlying hu,Result.andThen_ok,hf,part,asAgg,Sem.run_pure,Qqr hg,if_true,Qse hsz]
  rw [Array.getElem?_extract]at hj
  split at hj
  ·rw [Qbx]at hv
   split at hv
   ·rw [QgA]at hv;exact hc _ x v hj hv
   cases hv
  cases hj
 | false=>
  simp only [cond_false]at hv
  have hlt:f.offset<xs.size:=by rw [hs];exact(QT.1 hv).1
  refine⟨xs[f.offset],?_,hc _ _ v (QeA hlt) hv⟩
  simp [execOp,ho,he,Instr.field,Sem.run_bind,run_underlying hu,hf,part,asAgg,Qqr hg,hlt]
theorem QBf : ∀(ms:List (Option Nat)) (cs:List V),(QdU ms cs).length=cs.length:=by
 intro ms
 induction ms with
 | nil=>intro cs;cases cs<;>rfl
 | cons m ms ih=>intro cs;cases cs with
  | nil=>rfl
  | cons c cs=>simp [QdU,ih]
theorem Dat.den1 {I:Nat->Prop}{w:World}{x:Value}{v:V}{m:Option Nat}(h:Dat I w x v):Dat I w x (Vm.den1 m v):=by
 unfold Vm.den1
 split
 ·cases h;exact .sl0 _ _ _
 exact h
theorem QCe {m:Option Nat}{v:V}(h:v.one=true):(Vm.den1 m v).one=true:=by
 unfold Vm.den1
 split
 ·rfl
 exact h
theorem R.denilA {b z:Nat}{rs:List (List V)}{ms:List (Option Nat)}(hb:look σ.hp b=some (.arr z rs))(h:R C σ a w):R C (σ.set b (.arr z (rs.map (QdU ms)))) a w:=by
 obtain⟨φ,hr⟩:=h
 have hden:∀(ms:List (Option Nat)) (r:List V),(∀v∈r,v.one=true)->∀v∈QdU ms r,v.one=true:=by
  intro ms
  induction ms with
  | nil=>intro r hr;cases r<;>exact hr
  | cons m ms ih=>intro r hr;cases r with
   | nil=>exact hr
   | cons c r=>
    intro v hv
    rcases QaK.1 hv with rfl | hv
    ·exact QCe (hr c Qbz)
    exact ih r (fun v hv=>hr v (Qb1 _ hv)) v hv
 by_cases hne:rs=[]
 ·subst hne
  exact⟨φ,hr.sayOb (ob':=.arr z []) hb (fun _ _ h=>h) (.inl rfl)⟩
 refine⟨φ,hr.sayOb hb (fun B hB hrep=>?_) (.inr fun e=>hne e)⟩
 obtain⟨h1,h2,h3,cs,E,h4,h5,h6⟩:=hrep
 refine⟨h1,by simpa using h2,fun r hr'=>?_,cs,E,h4,h5,fun i r hi j v hj=>?_⟩
 ·obtain⟨r0,hr0,rfl⟩:=QaE.1 hr'
  exact⟨by rw [QBf];exact(h3 r0 hr0).1,hden _ _ (h3 r0 hr0).2⟩
 rw [Qak]at hi
 obtain⟨r0,hi0,rfl⟩:=Qas.1 hi
 obtain⟨m,v',hv',rfl⟩:=Qo7 _ _ j v hj
 obtain⟨x,hx,hD⟩:=h6 i r0 hi0 j v' hv'
 exact⟨x,hx,hD.den1⟩
theorem AK.denilA {Q:Exit->St->Prop}{pt:Pt}{ks:List Fr}{b z:Nat}{rs us:List (List V)}(ms:List (Option Nat))(hb:look σ.hp b=some (.arr z rs))(he:rs.map (QdU ms)=us)(k:AK P C Q pt ks (σ.set b (.arr z us))):AK P C Q pt ks σ:=by
 subst he
 exact AK.weaken (fun a w h=>R.denilA hb h) k
theorem QBh {α:Type}{f:α->List V}{n:Nat}{x:α}{r:List V}{ms:List (Option Nat)}(h:QdU ms r=f x):(List.replicate n r).map (QdU ms)=(List.replicate n x).map f:=by simp [h]
end
theorem QDn {p:Prop}{f:Code->Prop}{q:Nat}(h:(q==0)=true)(k:p):atJ p f (jmp q):=by rw [eq_of_beq h];exact k
theorem QEv {p:Prop}{f:Code->Prop}{q:Nat}(h:(q==2)=true)(k:f .ret):atJ p f (jmp q):=by rw [eq_of_beq h];exact k
def rfs : Code->List (Array Tmp×Code×Code)
 | .seq x y=>rfs x++rfs y
 | .cond _ x y=>rfs x++rfs y
 | .block _ x=>rfs x
 | .loop x=>rfs x
 | .rangeFunc _ ps a b=>[(ps,a,b)]
 | _=>[]
def QDo (f:Func)(k fn:Nat):QeS:=match f.body with
 | some c=>match (rfs c)[k]? with
  | some (ps,a,b)=>⟨fn,ps,a,b⟩
  | none=>⟨fn,#[],.skip,.skip⟩
 | none=>⟨fn,#[],.skip,.skip⟩
def yV (P:Program)(σ:St)(l d:Nat)(K:QeS)(vs:List V)(M N:List (Nat×Nat))(dead:List Nat)(ms:List Qel)(outs:List (Nat×Ob))(r:V):Option (St×Prop):=
 bif QcL σ M N dead outs&&QeY (M.map Prod.fst)&&QeY (N.map Prod.fst)then match Qke (bkM M) ms vs with
  | some us=>match Qgq (bkM M) (look σ.hp) M with
   | some hsC=>match Qgq (bkM N) (look outs) N with
    | some hsN=>match trV (bkM N) r with
     | some r'=>some ((σ.after dead hsN).put d r',Qrv P l K us hsC (Gives r outs))
     | none=>none
    | none=>none
   | none=>none
  | none=>none
 else none
section
variable {P:Program}{C:Ctx}{σ σ':St}{o:Oper}
theorem Stp.yieldV {d b l:Nat}{K:QeS}{cs:List V}{q:Nat}{x:Operand}{ags:Array Operand}{ts:Array TypeId}{M N:List (Nat×Nat)}{dead:List Nat}{outs:List (Nat×Ob)}{vs us:List V}{ms:List Qel}{r:V}{φ:Prop}(ho:o.op=.call { callee:=.value x,args:=ags,argTypes:=ts })
  (hx:σ.opd x=some (.clo (.yield l) [] [])) (hlp:look σ.hp b=some (.lp l K cs q)) (hq:q=0) (ha:σ.opsV ags.toList=some vs) (hps:vs.length=K.ps.size) (hd:o.dst=some d) (hn:Nat.ble (d+1) C.n=true) (hpg:C.pg P)
  (hu:QsB cs K.ps.toList vs=us) (e:yV P σ l d K us M N dead ms outs r=some (σ',φ)) (hφ:φ):Stp P C o σ σ':=by
 unfold yV at e
 replace e:=Qaf e;obtain⟨e1,e⟩:=e
 simp only [QB]at e1
 obtain⟨⟨h1,h2⟩,h3⟩:=e1
 have h2:=Qb4.1 h2
 have h3:=Qb4.1 h3
 have inj:QgW M=true/\QgW N=true:=by
  simp only [QcL,QB]at h1
  exact⟨h1.1.1.1,h1.1.1.2⟩
 have mM:∀a b,bkM M a=some b->look M b=some a:=fun a b h=>Qbc inj.1 (Qe5 h) h2
 have mN:∀a b,bkM N a=some b->look N b=some a:=fun a b h=>Qbc inj.2 (Qe5 h) h3
 split at e
 ·rename_i us hus
  split at e
  ·rename_i hsC hC
   split at e
   ·rename_i hsN hN
    split at e
    ·rename_i r' hr
     cases e
     subst hu
     exact Stp.yield ho hx hlp hq ha hps hd hn hpg h1 h2 (QgX mM hus) (Qcv mM hC) hφ (Qcv mN hN) (QjN mN hr)
    cases e
   cases e
  cases e
 cases e
end
section
variable {P:Program}{C:Ctx}{φ:Nat->Option Blk}{σ:St}{a:Act}{w:World}{o:Oper}
theorem Qs2 {zc:Array Value}{z m i:Nat}(hz:zc.size=z)(h0:0<z)(h:i<m*z):(Builtin.zeroCells zc m).toList[i]? = zc[i % z]? := by
 have h2:i % z<zc.size:=by rw [hz];exact Nat.mod_lt _ h0
 simp only [Builtin.zeroCells,hz,Array.toList_map,Array.toList_range,Qak,List.getElem?_range h,Qfu,Array.getElem!_eq_getD,Qo0,QeA h2,Option.getD_some]
theorem RR.clearTail {b n l z e:Nat}{rs:List (List V)}{zs:List V}{zv:Value}{B:Blk}(hr:RR C φ σ a w)(hb:look σ.hp b=some (.arr z rs))(hrn:rs.length=n)(hB:φ b=some B)(hzs:zv.cells.toList.map Qgs=zs)(hzl:zs.length=z)(h0:0<z)(hzo:zs.all V.one=true)
  (hln:l<=n):∃w',(storeCells ⟨B.b,B.off+l*z,none⟩ (Builtin.zeroCells zv.cells (n-l)).toList).run P w=.ok () w'/\RR C φ (σ.set b (.arr z (rs.take l++List.replicate (n-l) zs))) a w':=by
 obtain⟨hz,hrl,hok,xs,E,e1,e2,e3⟩:=hr.block hB hb
 subst hz
 have hcs:zv.cells.size=B.z:=by rw [<-hzl,<-hzs];simp
 rw [Qad]at hzo
 have hlen:(Builtin.zeroCells zv.cells (n-l)).toList.length=(n-l)*B.z:=by simp [Builtin.zeroCells,hcs]
 have hmul:l*B.z+(n-l)*B.z=n*B.z:=by rw [<-QcI];congr 1;omega
 have hnc:n*B.z<=B.cap*B.z:=Qct _ (by omega)
 have hone:∀v∈(Builtin.zeroCells zv.cells (n-l)).toList,v.oneCell'=true:=by
  intro v hv
  obtain⟨i,hi⟩:=Qlo.1 hv
  have hil:i<(n-l)*B.z:=by rw [<-hlen];exact(QT.1 hi).1
  rw [Qs2 hcs h0 hil]at hi
  have hm:(Qgs v)∈zs:=by rw [<-hzs];exact List.mem_map_of_mem (QvA.2 (Array.mem_of_getElem? hi))
  exact((Rep.dat (φ:=φ) (I:=fun _=>True) (w:=w) (Dat.const v)).oneCell (hzo _ hm)).2
 generalize hZ:(Builtin.zeroCells zv.cells (n-l)).toList=Z at hlen hone
 have hrun:=run_storeCells_at P B.b (B.off+l*B.z) E Z 0 xs w e1 (by rw [hlen];omega) hone
 simp only [Qlq]at hrun
 refine⟨_,hrun,?_⟩
 have hl1:(xs.toList.take (B.off+l*B.z)++Z++xs.toList.drop (B.off+l*B.z+Z.length)).length=xs.size:=by simp [hlen];omega
 refine hr.write hB rfl rfl rfl (by simp) (fun k hk=>setRow_other w B.b k _ hk) ⟨rfl,by simp;omega,?_,_,E,setRow_heap w B.b xs _ E _ e1,?_,?_⟩
 ·intro r' hr'
  rcases QcH.1 hr' with h | h
  ·exact hok r' (QeQ h)
  rw [Qni h];exact⟨hzl,hzo⟩
 ·simp only [List.size_toArray,hl1];exact e2
 have hI:∀k,Imm C φ w k->Imm C φ (w.setRow B.b (xs.toList.take (B.off+l*B.z)++Z++xs.toList.drop (B.off+l*B.z+Z.length)).toArray) k/\
   (w.setRow B.b (xs.toList.take (B.off+l*B.z)++Z++xs.toList.drop (B.off+l*B.z+Z.length)).toArray).heap[k]? = w.heap[k]?:=
  fun k hk=>⟨⟨by simpa using hk.1,hk.2⟩,setRow_other w B.b k _ fun e=>hk.2.2 b B hB (.inl e)⟩
 intro i r hi j v hj
 by_cases hil:i<l
 ·rw [Qbf (by simp;omega),Qbx,if_pos hil]at hi
  obtain⟨y,hy,hD⟩:=e3 i r hi j v hj
  have hjz:j<B.z:=by rw [<-(hok r (Qaa hi)).1];exact(QT.1 hj).1
  have hlt:i*B.z+j<l*B.z:=by
   have:(i+1)*B.z<=l*B.z:=Qct _ hil
   rw [QcI]at this;omega
  refine⟨y,?_,hD.mono hI⟩
  have hyl:=(Qhr.1 hy).1
  rw [QiZ,Qgb,Qbf (by simp;omega),Qbx,if_pos (by omega)];simpa using hy
 rw [Qcf (by simp;omega)]at hi
 simp only [QdI,hrn,Nat.min_eq_left hln]at hi
 rw [List.getElem?_replicate]at hi
 split at hi
 ·rename_i hin
  cases hi
  have hjz:j<B.z:=by rw [<-hzl];exact(QT.1 hj).1
  rw [<-hzs,Qak]at hj
  obtain⟨y,hy,rfl⟩:=Qas.1 hj
  refine⟨y,?_,Dat.const y⟩
  have hidx:(i-l)*B.z+j<(n-l)*B.z:=by
   have:(i-l+1)*B.z<=(n-l)*B.z:=Qct _ hin
   rw [QcI]at this;omega
  have hsum:i*B.z=l*B.z+(i-l)*B.z:=by rw [<-QcI];congr 1;omega
  rw [QiZ,Qgb,Qcf (by simp;omega),Qbf (by simp [hlen];omega)]
  have:B.off+(i*B.z+j)-(xs.toList.take (B.off+l*B.z)).length=(i-l)*B.z+j:=by simp;omega
  rw [this,<-hZ,Qs2 hcs h0 hidx]
  have hm:((i-l)*B.z+j) % B.z=j:=by rw [Nat.add_comm,Nat.add_mul_mod_self_right,Nat.mod_eq_of_lt hjz]
  rw [hm];simpa using hy
 cases hi
theorem AK.clearTail {Q:Exit->St->Prop}{ks:List Fr}{ops:Array Oper}{rest:List Oper}{o1 o2:Oper}{T d b n l z e by_:Nat}{x lo:Operand}{rs us:List (List V)}{zs:List V}(hg1:o1.guard=none)(hg2:o2.guard=none)
  (ho1:o1.op=.slice T x (some lo) none none) (hd1:o1.dst=some d) (ho2:o2.op=.call { callee:=.builtin .clear,args:=#[.tmp d],argTypes:=#[T] }) (hd2:o2.dst=none) (hn:Nat.ble (d+1) C.n=true)
  (hx:σ.opd x=some (.own b n)) (hb:look σ.hp b=some (.arr z rs)) (hrn:rs.length=n) (hT:Qav P T=some (e,z,by_)) (hz:QaF P e=some zs) (hzl:zs.length=z) (h0:Nat.ble 1 z=true) (hzo:zs.all V.one=true) (hl:Bnd σ 0 (some lo) l) (hln:l<=n)
  (hu:rs.take l++List.replicate (n-l) zs=us) (k:AK P C Q (.o ops rest) ks ((σ.set b (.arr z us)).put d .J)):AK P C Q (.o ops (o1::o2::rest)) ks σ:=by
 intro a w ⟨φ,hr⟩
 subst hu
 have h0:=QbV h0
 obtain⟨hu,i,hi',hiz,_⟩:=Qcu hT
 obtain⟨i',zv,hi2,hz',hzs⟩:=QhP hz
 have key:∃x1 w',(execOp a.eval o1).run P w=.ok (.value x1) w/\(Builtin.clear_ #[T] o2.type #[x1]).run P w=.ok (.tuple #[]) w'/\RR C φ (σ.set b (.arr z (rs.take l++List.replicate (n-l) zs))) a w':=by
  rcases(hr.opd hx).own_inv with⟨he,rfl⟩|⟨B,hB,hcap,he⟩
  ·have l0:l=0:=by omega
   subst l0
   have:rs=[]:=Qmb.1 hrn
   subst this
   refine⟨.slice none 0 0,w,?_,?_,hr.sayOb (ob':=.arr z []) hb (fun _ _ h=>h) (.inl rfl)⟩
   ·have hbn:=Qkd (P:=P) (b:=true) hr hl (.no (dflt:=0)) (by omega) (by omega:0<=0)
    simp only [Qfu,Qsc]at hbn
    simp [execOp,ho1,he,Instr.sliceAt,Instr.slice,run_underlying hu,hbn,sizeOf,typeInfo,hi']
   simp [Builtin.clear_,run_underlying hu]
  have hbn:=Qkd (P:=P) (b:=true) hr hl (.no (dflt:=n)) hln (by omega:n<=B.cap)
  simp only [Qfu,Qsc]at hbn
  by_cases hcl:B.cap=l
  ·have hln2:n-l=0:=by omega
   refine⟨.slice (some ⟨B.b,B.off,none⟩) 0 0,w,?_,?_,?_⟩
   ·simp only [execOp,ho1,he,Instr.sliceAt,Instr.slice,run_underlying hu,hbn,sizeOf,typeInfo,hi',Sem.run_bind,Sem.run_pure,run_program,Result.andThen_ok,Qfu,Qsc]
    simp [hcl];omega
   ·simp [Builtin.clear_,run_underlying hu]
   rw [hln2,List.replicate_zero,List.append_nil,QgB (by omega)]
   exact hr.sayOb hb (fun _ _ h=>h) (.inl rfl)
  obtain⟨w',hw,hr'⟩:=hr.clearTail (P:=P) (l:=l) (e:=e) hb hrn hB hzs hzl h0 hzo hln
  refine⟨.slice (some ⟨B.b,B.off+l*z,none⟩) (n-l) (B.cap-l),?_⟩
  have hex:(execOp a.eval o1).run P w=.ok (.value (.slice (some ⟨B.b,B.off+l*z,none⟩) (n-l) (B.cap-l))) w:=by
   simp only [execOp,ho1,he,Instr.sliceAt,Instr.slice,run_underlying hu,hbn,sizeOf,typeInfo,hi',Sem.run_bind,Sem.run_pure,run_program,Result.andThen_ok,Qfu,Qsc,if_neg hcl,hiz,Addr.add_lit]
  by_cases hnl:n-l=0
  ·refine⟨w,hex,?_,?_⟩
   ·rw [hnl];simp [Builtin.clear_,run_underlying hu]
   rw [hnl,List.replicate_zero,List.append_nil,QgB (by omega)]
   exact hr.sayOb hb (fun _ _ h=>h) (.inl rfl)
  refine⟨w',hex,?_,hr'⟩
  obtain⟨m,hm⟩:∃m,n-l=m+1:=⟨n-l-1,by omega⟩
  rw [hm]at hw ⊢
  rw [hi2]at hi';cases hi'
  simp only [Builtin.clear_,Sem.run_bind,run_underlying hu,Result.andThen_ok,Sem.run_pure,zeroValue,typeInfo,run_program,hi2,hz',QiZ,List.getElem?_cons_zero]
  simp [hw,hz']
 obtain⟨x1,w',hex,hcl,hr'⟩:=key
 have hput:∀t,(a.put (some d) x1).tmps[t]? = if t=d then(if d<a.tmps.size then some x1 else none)else a.tmps[t]? := fun t=>by
  simp only [Act.put,Qq4]
  by_cases e:d=t
  ·subst e;simp
  simp [e,Ne.symm e]
 have hev:(a.put (some d) x1).eval (.tmp d)=x1:=by
  have hlt:d<a.tmps.size:=by rw [hr.tmps];exact Qaj hn
  simp [Act.eval,Act.put,Qo0,Qq4,hlt]
 have hex2:(execOp (a.put (some d) x1).eval o2).run P w=.ok (.value (.tuple #[])) w':=by
  simp only [execOp,ho2,resolve,invoke,builtin,Sem.run_bind,Sem.run_pure,Result.andThen_ok,List.map_toArray,Qgc,List.map_nil,hev,hcl]
 show wpListIn C.F 0 P ops (up C (unw P C Q ks)) (o1::o2::rest) a w
 simp only [wpListIn,Region.wanted,hg1,if_true]
 refine⟨fun _ _=>trivial,?_⟩
 rw [Qwv hex,Oper.uponIn_value,hd1]
 simp only [wpListIn,Region.wanted,hg2,if_true]
 refine⟨fun _ _=>trivial,?_⟩
 rw [Qwv hex2,Oper.uponIn_value,hd2]
 exact k _ _ ⟨φ,hr'.put (Qaj hn) (.dat (.J x1))⟩
theorem QDp {α:Type}{f:α->List V}{e:List α}{l k:Nat}{zs:List V}{x:α}{ms:List (Option Nat)}(h1:∀y,QdU ms (f y)=f y)(h2:QdU ms zs=f x):((e.map f).take l++List.replicate k zs).map (QdU ms)=(e.take l++List.replicate k x).map f:=by
 have h3:QdU ms∘f=f:=funext h1
 simp [List.map_take,h2,h3]
theorem QBi {α:Type}{b l:Nat}{e:List α}{x:α}(h:l<=e.length):V.own b e.length=V.own b (e.take l++List.replicate (e.length-l) x).length:=by
 congr 1;simp;omega
end
end Go.Vm
namespace Go.Vm
open Go Go.RowKit Go.Proofs Go.Sort Go.Shelf
def Qkg (l:List Int):List Int:=l.mergeSort fun x y=>decide (x<=y)
def Qrd (x:Int):List V:=[V.i .i64 x]
theorem Qye (l:List Int):(Qkg l).length=l.length:=List.length_mergeSort ..
theorem QzE {P:Program}{ρ:Ren}(Ly:Lays.n189 P ρ)(zs:List Int)(hz:zs.length<4611686018427387904):
  Qc P (ρ.f 189) [.own 616 zs.length] [(616,.arr 1 (zs.map Qrd))] (Gives (.tup []) [(616,.arr 1 ((Qkg zs).map Qrd))]):=by
 intro S φ w vals hi _
 have hs:=hi.size
 obtain⟨v0,hv0⟩:∃v0,vals=#[v0]:=by
  obtain⟨l⟩:=vals
  match l,hs with
  | [x],_=>exact⟨x,rfl⟩
 subst hv0
 have ha:=hi.args 0 v0 _ rfl rfl
 rcases ha.own_inv with⟨hx,hn⟩|⟨B,hB,hn,hx⟩
 ·have h0:zs=[]:=List.eq_nil_of_length_eq_zero hn
  subst h0;subst hx
  refine(Any.slices_Sort_int_none Ly none 0 w).mono ?_
  rintro e w' ⟨rfl,rfl⟩
  refine⟨.tuple #[],.tup [],[(616,.arr 1 [])],φ,rfl,⟨rfl,fun c ob h=>by simpa [Qkg] using h⟩,rfl,rfl,rfl,Qb2 _,fun _ _ _=>rfl,hi.inj,fun o B h=>?_,fun o B k h hk=>?_,fun o B k h hk hlt=>?_,⟨fun o B _ h=>h,fun o ob B _ _ h=>h⟩,.dat (.tup _ _ rfl fun j x v h=>by simp at h),fun o ob h=>?_⟩
  ·obtain⟨_,_,ob,hob⟩:=hi.dom o B h;exact⟨ob,hob⟩
  ·obtain⟨_,h2,_⟩:=hi.dom o B h
   exact⟨(h2 k hk).1,fun _=>⟨o,B,h,hk⟩⟩
  ·obtain⟨h1,_,_⟩:=hi.dom o B h;omega
  have hS:∀k,S k->Aft S φ w' w' k/\w'.heap[k]? = w'.heap[k]? := fun k hk=>⟨⟨hi.lt k hk,fun _=>hk,fun o B h hb=>((hi.dom o B h).2.1 k hb).2 hk⟩,rfl⟩
  rcases hi.heap o ob h with⟨B,hB,hr⟩|hn
  ·exact .inl ⟨B,hB,hr.mono (fun _ _ h=>h) hS fun _ _=>rfl⟩
  exact .inr hn
 subst hx
 have hob:QbN φ S w B (.arr 1 (zs.map Qrd)):=by
  rcases hi.heap 616 _ (Qv _ _ _)with⟨B',hB',hr⟩|⟨hn',_⟩
  ·rw [hB]at hB';cases hB';exact hr
  rw [hB]at hn';cases hn'
 obtain⟨hz1,hle,hok,cs,E,hb,hsz,hcell⟩:=hob
 have hlt:B.b<w.heap.size:=((hi.dom _ _ hB).2.1 _ B.self).1
 have hrow:∀(l:List Int) (i:Nat) (x:Int),l[i]? = some x->(l.map Qrd)[i]? = some (Qrd x):=fun l i x h=>by rw [Qak,h];rfl
 have hc:∀(i:Nat) x,zs[i]? = some x->cs[B.off+i]? = some (.int .i64 x):=fun i x h=>by
  obtain⟨y,hy,hd⟩:=hcell i _ (hrow _ i x h) 0 (.i .i64 x) rfl
  rw [show i*1+0=i by omega]at hy
  rw [hy];cases hd;rfl
 have hH:Holds (Value.int .i64) w B.b B.off zs.toArray:=fun j hj=>by
  have hj':j<zs.length:=by simpa using hj
  have h1:=hc j zs[j] (QG hj')
  have h2:zs.toArray[j]! = zs[j]:=by simp [hj']
  refine⟨?_,?_⟩
  ·rw [h2];simp [World.cell?,hb,h1]
  simp [World.frozen?,hb]
 refine(Any.slices_Sort_int Ly B.b B.off B.cap zs w hH hlt hz).mono ?_
 rintro e w' ⟨rfl,n,os,rfl⟩
 have hh:∀k,k<w.heap.size->(grow (putRow (Value.int .i64) (Sort.ahead w n) B.b B.off (Qkg zs).toArray) os).heap[k]? = (w.heap.modify B.b (onCells (putCells (Value.int .i64) B.off (Qkg zs).toArray)))[k]? := fun k hk=>by
  rw [heap_grow_old _ _ (by rw [size_putRow];exact hk)];rfl
 have ho:∀k,k<w.heap.size->k≠B.b->(grow (putRow (Value.int .i64) (Sort.ahead w n) B.b B.off (Qkg zs).toArray) os).heap[k]? = w.heap[k]? := fun k hk hne=>by
  rw [hh k hk,Array.getElem?_modify,if_neg (Ne.symm hne)]
 have hsize:w.heap.size<=(grow (putRow (Value.int .i64) (Sort.ahead w n) B.b B.off (Qkg zs).toArray) os).heap.size:=by
  rw [size_grow,size_putRow];exact Nat.le_add_right _ _
 have hme:(grow (putRow (Value.int .i64) (Sort.ahead w n) B.b B.off (Qkg zs).toArray) os).heap[B.b]? = some (.cells (putCells (Value.int .i64) B.off (Qkg zs).toArray cs) E (0,0)):=by
  rw [hh _ hlt,Array.getElem?_modify,if_pos rfl,hb];rfl
 have hall:∀o' B',φ o'=some B'->o'=616:=fun o' B' h'=>by
  obtain⟨_,_,ob,hob⟩:=hi.dom o' B' h'
  by_cases e:616=o'
  ·exact e.symm
  rw [Qr _ _ e]at hob;cases hob
 refine⟨.tuple #[],.tup [],[(616,.arr 1 ((Qkg zs).map Qrd))],φ,rfl,⟨rfl,fun c ob h=>h⟩,rfl,rfl,rfl,hsize,fun k hk hno=>?_,hi.inj,fun o B h=>?_,fun o B k h hk=>?_,fun o B k h hk hl=>?_,⟨fun o B _ h=>h,fun o ob B _ _ h=>h⟩,.dat (.tup _ _ rfl fun j x v h=>by simp at h),fun o ob h=>?_⟩
 ·exact ho k hk fun e=>hno 616 B hB (e▸B.self)
 ·rw [hall o B h];exact⟨_,Qv _ _ _⟩
 ·obtain⟨_,h2,_⟩:=hi.dom o B h
  exact⟨Qg8 (h2 k hk).1 hsize,fun _=>⟨o,B,h,hk⟩⟩
 ·obtain⟨h1,_,_⟩:=hi.dom o B h;omega
 by_cases e:616=o
 ·subst e
  rw [Qv]at h;cases h
  refine .inl ⟨B,hB,hz1,?_,?_,_,E,hme,?_,?_⟩
  ·rw [Qlm,Qye];rw [Qlm]at hle;exact hle
  ·intro r hr;obtain⟨x,_,rfl⟩:=QaE.1 hr
   exact⟨rfl,fun v hv=>by simp [Qrd]at hv;subst hv;rfl⟩
  ·simpa [putCells] using hsz
  intro i r hi' j v hj
  rw [Qak]at hi'
  obtain⟨x,hx,rfl⟩:=Qas.1 hi'
  have hil:i<(Qkg zs).length:=(QT.1 hx).1
  have hil':i<zs.length:=by rw [Qye]at hil;exact hil
  match j,hj with
  | 0,hj=>
   cases hj
   refine⟨.int .i64 x,?_,.i _ _⟩
   rw [show i*1+0=i by omega]
   have h1:=hc i zs[i] (QG hil')
   have h2:(Qkg zs).toArray[i]! = x:=by
    have:=QT.1 hx
    obtain⟨h3,h4⟩:=this
    simp [h3,h4]
   simp only [putCells,Array.getElem?_mapIdx,h1,Qfu]
   rw [if_pos ⟨by omega,by simp;omega⟩,show B.off+i-B.off=i by omega,h2]
  | j+1,hj=>simp [Qrd]at hj
 rw [Qr _ _ e]at h;cases h
def QxD (x:Int):List Int->List Int
 | []=>[x]
 | y::l=>bif decide (x<=y)then x::y::l else y::QxD x l
def Qep : List Int->List Int
 | []=>[]
 | x::l=>QxD x (Qep l)
theorem Qyf (x:Int)(l:List Int):(QxD x l).Perm (x::l):=by
 induction l with
 | nil=>exact .refl _
 | cons y l ih=>
  rw [QxD]
  cases decide (x<=y)with
  | true=>exact .refl _
  | false=>exact(ih.cons y).trans (.swap x y l)
theorem QCU {x:Int}{l:List Int}(h:l.Pairwise (·<=·)):(QxD x l).Pairwise (·<=·):=by
 induction l with
 | nil=>exact List.pairwise_singleton _ _
 | cons y l ih=>
  obtain⟨h1,h2⟩:=List.pairwise_cons.1 h
  rw [QxD]
  cases c:decide (x<=y)with
  | true=>
   have c:=Qap c
   refine List.pairwise_cons.2 ⟨fun z hz=>?_,h⟩
   rcases QaK.1 hz with rfl | hz
   ·exact c
   have:=h1 z hz;omega
  | false=>
   have c:=of_decide_eq_false c
   refine List.pairwise_cons.2 ⟨fun z hz=>?_,ih h2⟩
   rcases QaK.1 ((Qyf x l).mem_iff.1 hz)with rfl | hz
   ·omega
   exact h1 z hz
theorem QwI (l:List Int):(Qep l).Perm l:=by
 induction l with
 | nil=>exact .refl _
 | cons x l ih=>exact(Qyf x _).trans (ih.cons x)
theorem QzF (l:List Int):(Qep l).Pairwise (·<=·):=by
 induction l with
 | nil=>exact List.Pairwise.nil
 | cons x l ih=>exact QCU ih
theorem QsC (l:List Int):Qep l=l.mergeSort fun x y=>decide (x<=y):=by
 refine List.Perm.eq_of_pairwise (le:=fun x y:Int=>x<=y) (fun a b _ _ h1 h2=>by omega) (QzF l) ?_ ((QwI l).trans (List.mergeSort_perm l _).symm)
 exact(List.pairwise_mergeSort (le:=fun x y:Int=>decide (x<=y)) (fun a b c h1 h2=>by simp at *;omega) (fun a b=>by simp;omega) l).imp fun h=>by simpa using h
theorem QhR (l:List Int):(Qep l).length=l.length:=(QwI l).length_eq
theorem QzG {P:Program}{ρ:Ren}(Ly:Lays.n189 P ρ)(zs:List Int)(hz:zs.length<4611686018427387904):
  Qc P (ρ.f 189) [.own 616 zs.length] [(616,.arr 1 (zs.map Qrd))] (Gives (.tup []) [(616,.arr 1 ((Qep zs).map Qrd))]):=by
 have h:=QzE Ly zs hz
 rw [show Qkg zs=Qep zs from(QsC zs).symm]at h
 exact h
def Qy8 (s:ByteArray):Bool:=decide (s.size<4294967281)&&s.data.toList.all fun b=>decide (b.toNat<128)
def Qgv (s:ByteArray):List ByteArray:=(Lib.fields s.data.toList).map fun l=>⟨l.toArray⟩
theorem Qyu {P:Program}{ρ:Ren}(Ly:Lays.n157 P ρ)(hi9:(P.info? (ρ.t 9)).map (fun i=>(i.zero,i.size,i.bytes))=some (some (.string ByteArray.empty),1,16))(hg:P.globalNamed "strings.asciiSpace" = some (ρ.g 0))(s:ByteArray)(hs:Qy8 s=true):
  Qc P (ρ.f 157) [.s s] [] (Gives (.own 600 (Qgv s).length) [(600,.arr 1 ((Qgv s).map fun x=>[V.s x]))]):=by
 intro S φ w vals hi hG
 have hsz:=hi.size
 obtain⟨v0,hv0⟩:∃v0,vals=#[v0]:=by
  obtain⟨l⟩:=vals
  match l,hsz with
  | [x],_=>exact⟨x,rfl⟩
 subst hv0
 have ha:=(hi.args 0 v0 _ rfl rfl).s_inv
 subst ha
 unfold Qy8 at hs
 rw [QB,decide_eq_true_iff,Qad]at hs
 obtain⟨hs1,hs2⟩:=hs
 obtain⟨_,hl,hT⟩:=hG _ hg
 have hno:∀o B,φ o≠some B:=fun o B h=>by obtain⟨_,_,ob,hob⟩:=hi.dom o B h;cases hob
 refine(Any.strings_Fields_core Ly hi9 s w hs1 (fun j b hb=>by simpa using hs2 b (Qaa hb)) hT).mono ?_
 rintro e w' ⟨rfl,rfl⟩
 have hlen:(Lib.fields s.data.toList).length=(Qgv s).length:=by unfold Qgv;simp
 rw [hlen]
 generalize hO:Obj.cells ((Lib.fields s.data.toList).map fun l=>Value.string ⟨l.toArray⟩).toArray (ρ.t 9)=O
 have hme:(w.alloc O).heap[w.heap.size]? = some O:=World.alloc_heap_new _ _
 have hold:∀k,k<w.heap.size->(w.alloc O).heap[k]? = w.heap[k]? := fun k hk=>Below.heap_alloc w O k hk
 have hsize:(w.alloc O).heap.size=w.heap.size+1:=by simp
 have hφ:∀o B,(ext (fun _=>none) 600 ⟨w.heap.size,(Qgv s).length,1,[],0⟩) o=some B->o=600/\B=⟨w.heap.size,(Qgv s).length,1,[],0⟩:=fun o B h=>by
  unfold ext at h
  split at h
  ·rename_i e;exact⟨e,(Option.some.inj h).symm⟩
  cases h
 have hhas:∀k,(⟨w.heap.size,(Qgv s).length,1,[],0⟩:Blk).has k->k=w.heap.size:=fun k hk=>QoX hk
 refine⟨_,.own 600 (Qgv s).length,[(600,.arr 1 ((Qgv s).map fun x=>[V.s x]))],ext (fun _=>none) 600 ⟨w.heap.size,(Qgv s).length,1,[],0⟩,rfl,⟨rfl,fun c ob h=>h⟩,rfl,rfl,rfl,by rw [hsize];omega,fun k hk _=>hold k hk,fun o o' B B' k h1 h2 _ _=>by rw [(hφ o B h1).1,(hφ o' B' h2).1],fun o B h=>?_,fun o B k h hk=>?_,fun o B k h hk _=>?_,⟨fun o B h1 h2=>by obtain⟨rfl,_⟩:=hφ o B h2;omega,fun o ob B _ h2 h3=>absurd h3 (hno o B)⟩,.own _ _ _ (Q8 _ _ _) (Qb2 _),fun o ob h=>?_⟩
 ·rw [(hφ o B h).1];exact⟨_,Qv _ _ _⟩
 ·obtain⟨_,rfl⟩:=hφ o B h
  have:=hhas k hk
  rw [hsize];exact⟨by omega,fun h=>by omega⟩
 ·obtain⟨_,rfl⟩:=hφ o B h
  have:=hhas k hk;omega
 by_cases e:600=o
 ·subst e
  rw [Qv]at h;cases h
  refine .inl ⟨_,Q8 _ _ _,rfl,by simp,fun r hr=>?_,_,_,by rw [hme,<-hO],by rw [<-hlen];simp,fun i r hi' j v hj=>?_⟩
  ·obtain⟨x,_,rfl⟩:=QaE.1 hr
   exact⟨rfl,fun v hv=>by simp at hv;subst hv;rfl⟩
  rw [Qak]at hi'
  obtain⟨x,hx,rfl⟩:=Qas.1 hi'
  match j,hj with
  | 0,hj=>
   cases hj
   refine⟨.string x,?_,.s _⟩
   unfold Qgv at hx
   rw [Qak]at hx
   obtain⟨l,hl',rfl⟩:=Qas.1 hx
   simp [hl']
  | j+1,hj=>simp at hj
 rw [Qr _ _ e]at h;cases h
section
variable {P:Program}{C:Ctx}{σ:St}{o:Oper}
theorem Stp.max3 {d:Nat}{x y z:Operand}{k:IntKind}{m n q:Int}{ts:Array TypeId}(ho:o.op=.call { callee:=.builtin .max,args:=#[x,y,z],argTypes:=ts })(hd:o.dst=some d)(hn:Nat.ble (d+1) C.n=true)
  (hx:σ.opd x=some (.i k m)) (hy:σ.opd y=some (.i k n)) (hz:σ.opd z=some (.i k q)):Stp P C o σ (σ.put d (.i k (Vm.max2 (Vm.max2 m n) q))):=by
 refine Stp.same hd hn fun φ a w hr=>⟨.int k (Vm.max2 (Vm.max2 m n) q),?_,.dat (.i _ _)⟩
 simp [execOp,ho,(hr.opd hx).i_inv,(hr.opd hy).i_inv,(hr.opd hz).i_inv,resolve,invoke,builtin,Builtin.max_,Builtin.max2,Vm.max2]
end
end Go.Vm
namespace Go.Vm
open Go Go.RowKit
def Cl (w:World)(cs:List Value)(vs:List V):Prop:=cs.length=vs.length/\∀(j:Nat) c v,cs[j]? = some c->vs[j]? = some v->Dat (fun k=>k<w.heap.size) w c v
theorem Cl.nil {w:World}:Cl w [] []:=⟨rfl,fun j c v h _=>by simp at h⟩
theorem Cl.one {w:World}{c:Value}{v:V}(h:Dat (fun k=>k<w.heap.size) w c v):Cl w [c] [v]:=⟨rfl,fun j c' v' h1 h2=>by
 match j with
 | 0=>simp at h1 h2;subst h1;subst h2;exact h
 | j+1=>simp at h1⟩
theorem Cl.append {w:World}{a b:List Value}{u v:List V}(h1:Cl w a u)(h2:Cl w b v):Cl w (a++b) (u++v):=by
 refine⟨by simp [h1.1,h2.1],fun j c x hc hx=>?_⟩
 by_cases hj:j<a.length
 ·rw [Qbf hj]at hc
  rw [Qbf (by rw [<-h1.1];exact hj)]at hx
  exact h1.2 j c x hc hx
 rw [Qcf (by omega)]at hc
 rw [Qcf (by rw [<-h1.1];omega)]at hx
 rw [<-h1.1]at hx
 exact h2.2 _ c x hc hx
def Rd {H α:Type}(enc:TypeId×Value->H)(P:Program)(w:World)(N:Nat)(t:TypeId)(row:α->List V)(wf:α->DataW H->Prop):Prop:=
 ∀(fuel:Nat) (cs:List Value) (d:DataW H) (ps:List MemPlace),fuel<=N->DataW.trod enc P w 0 (fun _=>true) true fuel t cs=some (d,ps)->∃x,wf x d/\Cl w cs (row x)
def RdF {H α:Type}(enc:TypeId×Value->H)(P:Program)(w:World)(N:Nat)(off tot:Nat)(fs:List (Nat×Nat))(row:α->List V)(wf:α->List (DataW H)->Prop):Prop:=
 ∀(fuel:Nat) (cs:List Value) (xs:List (DataW H×List MemPlace)),fuel<=N->cs.length=off+tot->(fs.mapM fun f=>DataW.trod enc P w 0 (fun _=>true) true fuel f.1 ((cs.drop f.2).take (P.cellsOf f.1)))=some xs->
  ∃x,wf x (xs.map Prod.fst)/\Cl w (cs.drop off) (row x)
section
variable {H:Type}{enc:TypeId×Value->H}{P:Program}{w:World}{N:Nat}{t:TypeId}
theorem Rd.mono {α:Type}{M:Nat}{row:α->List V}{wf:α->DataW H->Prop}(h:Rd enc P w N t row wf)(hM:M<=N):Rd enc P w M t row wf:=fun fuel cs d ps hf e=>h fuel cs d ps (QbM hf hM) e
theorem Rd.zero {α:Type}{row:α->List V}{wf:α->DataW H->Prop}:Rd enc P w 0 t row wf:=fun fuel cs d ps hf e=>by
 have:fuel=0:=by omega
 subst this
 simp [DataW.trod]at e
theorem Rd.map {α β:Type}{row:α->List V}{wf:α->DataW H->Prop}{row':β->List V}{wf':β->DataW H->Prop}(g:α->β)(h:Rd enc P w N t row wf)(hr:∀x,row x=row' (g x))(hw:∀x d,wf x d->wf' (g x) d):Rd enc P w N t row' wf':=fun fuel cs d ps hf e=>by
 obtain⟨x,h1,h2⟩:=h fuel cs d ps hf e
 exact⟨g x,hw x d h1,by rw [<-hr];exact h2⟩
theorem Rd.int {k:IntKind}(ht:P.underlying t=some (.int k)):Rd enc P w N t (fun n:Int=>[V.i k n]) (fun n d=>(Lit.int k n).wf=true/\d=.lit (.int k n)):=by
 intro fuel cs d ps _ e
 cases fuel with
 | zero=>simp [DataW.trod]at e
 | succ fuel=>
  simp only [DataW.trod,ht]at e
  split at e
  all_goals first | (cases e;done) | (rename_i hq;cases hq;done) | skip
  rename_i hq
  cases hq
  split at e
  ·rename_i hc
   obtain⟨rfl,hwf⟩:=hc
   cases e
   exact⟨_,⟨hwf,rfl⟩,Cl.one (.i _ _)⟩
  cases e
theorem Rd.bool (ht:P.underlying t=some .bool):Rd enc P w N t (fun n:Bool=>[V.b n]) (fun n d=>d=.lit (.bool n)):=by
 intro fuel cs d ps _ e
 cases fuel with
 | zero=>simp [DataW.trod]at e
 | succ fuel=>
  simp only [DataW.trod,ht]at e
  split at e
  all_goals first | (cases e;done) | (rename_i hq;cases hq;done) | skip
  cases e
  exact⟨_,rfl,Cl.one (.b _)⟩
theorem Rd.string (ht:P.underlying t=some .string):Rd enc P w N t (fun n:ByteArray=>[V.s n]) (fun n d=>n.size<=maxLen/\d=.lit (.string n.data.toList)):=by
 intro fuel cs d ps _ e
 cases fuel with
 | zero=>simp [DataW.trod]at e
 | succ fuel=>
  simp only [DataW.trod,ht]at e
  split at e
  all_goals first | (cases e;done) | (rename_i hq;cases hq;done) | skip
  split at e
  ·rename_i hc
   cases e
   exact⟨_,⟨hc,rfl⟩,Cl.one (.s _)⟩
  cases e
theorem QDq {α:Type}{Q:Nat->α->Prop}:∀n:Nat,(∀i,i<n->∃x,Q i x)->∃l:List α,l.length=n/\∀i x,l[i]? = some x->Q i x:=by
 intro n
 induction n with
 | zero=>intro _;exact⟨[],rfl,fun i x h=>by simp at h⟩
 | succ n ih=>
  intro h
  obtain⟨l,h1,h2⟩:=ih fun i hi=>h i (by omega)
  obtain⟨x,hx⟩:=h n (by omega)
  refine⟨l++[x],by simp [h1],fun i y hy=>?_⟩
  by_cases hi:i<l.length
  ·rw [Qbf hi]at hy;exact h2 i y hy
  have:=(QT.1 hy).1
  simp at this
  have:i=l.length:=by omega
  subst this
  simp at hy;subst hy;rw [h1];exact hx
def wfL {α:Type}(wf:α->DataW H->Prop)(l:List α)(d:DataW H):Prop:=l.length<=maxLen/\((d=.nil/\l=[])\/∃es sp,d=.slice es sp/\es.length=l.length/\∀(i:Nat) x e,l[i]? = some x->es[i]? = some e->wf x e)
theorem Rd.slice {α:Type}{e z:Nat}{row:α->List V}{wf:α->DataW H->Prop}(ht:P.underlying t=some (.slice e))(hz:P.cellsOf e=z)(hz0:0<z)(hrow:∀x,Qfv z (row x))(he:Rd enc P w N e row wf):
  Rd enc P w N t (fun l:List α=>[V.sl z (l.map row)]) (wfL wf):=by
 subst hz
 intro fuel cs d ps hN h
 cases fuel with
 | zero=>simp [DataW.trod]at h
 | succ fuel=>
  simp only [DataW.trod,ht]at h
  split at h
  all_goals first | (cases h;done) | (rename_i hq;cases hq;done) | skip
  ·cases h;exact⟨[],⟨Qnl _,.inl ⟨rfl,rfl⟩⟩,Cl.one (.sl0 _ _ _)⟩
  rename_i a len cap hq
  cases hq
  split at h
  ·rename_i hc
   obtain⟨_,hlc,hcm⟩:=hc
   obtain⟨elems,hel,h⟩:=QoJ.1 h
   obtain⟨rest,_,h⟩:=Qas.1 h
   have hlen:elems.length=len:=by simpa using mapM_some_length hel
   have hat:∀i,i<len->∃y rc,elems[i]? = some y/\w.cells? 0 (a.add (i*P.cellsOf e)) (P.cellsOf e)=some rc/\DataW.trod enc P w 0 (fun _=>true) true fuel e rc=some y:=fun i hi=>by
    have:=mapM_some_get hel i i (by simp [hi])
    obtain⟨y,hy⟩:∃y,elems[i]? = some y:=⟨_,QG (by omega)⟩
    rw [hy]at this
    obtain⟨rc,h1,h2⟩:=QoJ.1 this
    exact⟨y,rc,hy,h1,h2⟩
   obtain⟨l,hl,hQ⟩:=QDq (Q:=fun i x=>∃y rc,elems[i]? = some y/\w.cells? 0 (a.add (i*P.cellsOf e)) (P.cellsOf e)=some rc/\wf x y.1/\Cl w rc (row x)) len fun i hi=>by
    obtain⟨y,rc,h1,h2,h3⟩:=hat i hi
    obtain⟨x,h4,h5⟩:=he fuel rc y.1 y.2 (by omega) h3
    exact⟨x,y,rc,h1,h2,h4,h5⟩
   have hd:d=.slice (elems.map (·.1)) (rest.map (·.1)):=by cases h;rfl
   refine⟨l,⟨by omega,.inr ⟨_,_,hd,by simp [hl,hlen],fun i x e' hx he'=>?_⟩⟩,Cl.one ?_⟩
   ·obtain⟨y,rc,h1,_,h3,_⟩:=hQ i x hx
    rw [Qak,h1]at he'
    cases he';exact h3
   by_cases h0:len=0
   ·have:l=[]:=Qmb.1 (by omega)
    subst this;subst h0;exact .sl0 _ _ _
   obtain⟨b,off,spot⟩:=a
   obtain⟨y0,rc0,_,h02,_⟩:=hat 0 (by omega)
   have hs:spot=none:=by
    obtain⟨_,h2,h3⟩:=World.cells?_some h02
    have h4:=h3 0 hz0
    obtain⟨c0,hc0⟩:∃c0,rc0[0]? = some c0:=⟨_,QG (by omega)⟩
    rw [hc0]at h4
    simpa [Addr.add] using World.cell?_spot h4
   subst hs
   have hb:b<w.heap.size:=by
    have hb:=World.cells?_block h02 hz0
    rwa [WideShapes.add_plain]at hb
   have hcell:∀i,i<len->∀rc,w.cells? 0 ((⟨b,off,none⟩:Addr).add (i*P.cellsOf e)) (P.cellsOf e)=some rc->rc.length=P.cellsOf e/\∀j,j<P.cellsOf e->w.cell? ⟨b,off+(i*P.cellsOf e+j),none⟩=rc[j]? := fun i hi rc h=>by
    obtain⟨_,h2,h3⟩:=World.cells?_some h
    refine⟨h2,fun j hj=>?_⟩
    have:=h3 j hj
    rw [WideShapes.add_plain,WideShapes.add_plain]at this
    rw [<-Qmd];exact this
   refine .sl b off len cap (P.cellsOf e) (l.map row) (fun j=>(w.cell? ⟨b,off+j,none⟩).getD undef) hb (by simp [hl]) hlc (fun r hr=>by obtain⟨x,_,rfl⟩:=QaE.1 hr;exact hrow x) (fun j hj=>?_) (fun i r hr j v hv=>?_)
   ·have hij:j / P.cellsOf e<len:=Nat.div_lt_of_lt_mul (by rw [Nat.mul_comm];exact hj)
    obtain⟨y,rc,_,h2,_⟩:=hat (j / P.cellsOf e) hij
    obtain⟨h3,h4⟩:=hcell _ hij rc h2
    have h5:=h4 (j % P.cellsOf e) (Nat.mod_lt _ hz0)
    rw [Nat.mul_comm (j / P.cellsOf e),Nat.div_add_mod]at h5
    rw [h5]
    have:j % P.cellsOf e<rc.length:=by rw [h3];exact Nat.mod_lt _ hz0
    rw [QG this];rfl
   rw [Qak]at hr
   obtain⟨x,hx,rfl⟩:=Qas.1 hr
   have hi:i<len:=by rw [<-hl];exact(QT.1 hx).1
   obtain⟨y,rc,_,h2,_,h3⟩:=hQ i x hx
   obtain⟨h4,h5⟩:=hcell i hi rc h2
   have hj:j<P.cellsOf e:=by rw [<-(hrow x).1];exact(QT.1 hv).1
   have h6:=h5 j hj
   obtain⟨c,hc⟩:∃c,rc[j]? = some c:=⟨_,QG (by omega)⟩
   rw [hc]at h6
   show Dat _ w ((w.cell? ⟨b,off+(i*P.cellsOf e+j),none⟩).getD undef) v
   rw [h6]
   exact h3.2 j c v hc hv
  cases h
theorem RdF.nil {off:Nat}:RdF enc P w N off 0 [] (fun _:Unit=>[]) (fun _ xs=>xs=[]):=fun fuel cs xs _ hl h=>by
 simp at h
 subst h
 exact⟨(),rfl,by rw [List.drop_of_length_le (by omega)];exact Cl.nil⟩
theorem RdF.cons {α β:Type}(t off z:Nat){tot:Nat}{fs:List (Nat×Nat)}{row1:α->List V}{row2:β->List V}{wf1:α->DataW H->Prop}{wf2:β->List (DataW H)->Prop}(hz:P.cellsOf t=z)
  (h1:Rd enc P w N t row1 wf1) (h2:RdF enc P w N (off+z) tot fs row2 wf2):RdF enc P w N off (z+tot) ((t,off)::fs) (fun x:α×β=>row1 x.1++row2 x.2) (fun x ds=>∃d r,ds=d::r/\wf1 x.1 d/\wf2 x.2 r):=by
 intro fuel cs xs hN hl h
 subst hz
 rw [List.mapM_cons]at h
 obtain⟨y,hy,h⟩:=QoJ.1 h
 obtain⟨ys,hys,h⟩:=QoJ.1 h
 cases h
 obtain⟨x1,a1,a2⟩:=h1 fuel _ y.1 y.2 hN hy
 obtain⟨x2,b1,b2⟩:=h2 fuel cs ys hN (by omega) hys
 refine⟨(x1,x2),⟨y.1,ys.map Prod.fst,rfl,a1,b1⟩,?_⟩
 have:cs.drop off=(cs.drop off).take (P.cellsOf t)++cs.drop (off+P.cellsOf t):=by
  rw [<-List.drop_drop,List.take_append_drop]
 rw [this]
 exact a2.append b2
def QuP (P:Program)(t:TypeId)(fs:List (Nat×Nat))(tot:Nat):Bool:=match P.underlying t with
 | some (.struct gs)=>(gs.toList.map fun f=>(f.type,f.offset))==fs&&P.cellsOf t==tot
 | _=>false
theorem Qvu {t tot:Nat}{fs:List (Nat×Nat)}(h:QuP P t fs tot=true):∃gs,P.underlying t=some (.struct gs)/\(gs.toList.map fun f=>(f.type,f.offset))=fs/\P.cellsOf t=tot:=by
 unfold QuP at h
 split at h
 ·rename_i gs hg
  rw [QB,beq_iff_eq,beq_iff_eq]at h
  exact⟨gs,hg,h.1,h.2⟩
 cases h
theorem Rd.struct {α:Type}{fs:List (Nat×Nat)}{tot:Nat}{row:α->List V}{wf:α->List (DataW H)->Prop}(hB:QuP P t fs tot=true)(hf:RdF enc P w N 0 tot fs row wf):
  Rd enc P w (N+1) t row (fun x d=>∃ds,d=.agg ds/\wf x ds):=by
 obtain⟨gs,ht,hfs,hc⟩:=Qvu hB
 intro fuel cs d ps hN h
 cases fuel with
 | zero=>simp [DataW.trod]at h
 | succ fuel=>
  simp only [DataW.trod,ht]at h
  split at h
  ·rename_i hl
   obtain⟨xs,hxs,h⟩:=Qas.1 h
   cases h
   obtain⟨x,a1,a2⟩:=hf fuel cs xs (by omega) (by rw [hl,hc];omega) (by rw [<-hfs,List.mapM_map];exact hxs)
   exact⟨x,⟨_,rfl,a1⟩,a2⟩
  cases h
def Qy9 (P:Program)(t e n tot:Nat)(fs:List (Nat×Nat)):Bool:=match P.underlying t with
 | some (.array m e')=>m==n&&e'==e&&P.cellsOf t==tot&&((List.range n).map fun i=>(e,i*P.cellsOf e))==fs
 | _=>false
theorem QAr {t e n tot:Nat}{fs:List (Nat×Nat)}(h:Qy9 P t e n tot fs=true):P.underlying t=some (.array n e)/\P.cellsOf t=tot/\((List.range n).map fun i=>(e,i*P.cellsOf e))=fs:=by
 unfold Qy9 at h
 split at h
 ·rename_i m e' hg
  simp only [QB,beq_iff_eq]at h
  obtain⟨⟨⟨rfl,rfl⟩,h⟩,h2⟩:=h
  exact⟨hg,h,h2⟩
 cases h
theorem Rd.array {α:Type}{e n tot:Nat}{fs:List (Nat×Nat)}{row:α->List V}{wf:α->List (DataW H)->Prop}(hB:Qy9 P t e n tot fs=true)(hf:RdF enc P w N 0 tot fs row wf):
  Rd enc P w (N+1) t row (fun x d=>∃ds,d=.agg ds/\wf x ds):=by
 obtain⟨ht,hc,hfs⟩:=QAr hB
 intro fuel cs d ps hN h
 cases fuel with
 | zero=>simp [DataW.trod]at h
 | succ fuel=>
  simp only [DataW.trod,ht]at h
  split at h
  ·rename_i hl
   obtain⟨xs,hxs,h⟩:=Qas.1 h
   cases h
   obtain⟨x,a1,a2⟩:=hf fuel cs xs (by omega) (by rw [hl,hc];omega) (by rw [<-hfs,List.mapM_map];exact hxs)
   exact⟨x,⟨_,rfl,a1⟩,a2⟩
  cases h
def okI (k:IntKind)(n:Int):Prop:=k.min<=n/\n<=k.max
def okS (s:ByteArray):Prop:=s.size<=maxLen
def okL {α:Type}(ok:α->Prop)(l:List α):Prop:=l.length<=maxLen/\∀x∈l,ok x
theorem QDr {k:IntKind}{n:Int}{d:DataW H}(h:(Lit.int k n).wf=true/\d=.lit (.int k n)):okI k n:=by
 have:=h.1
 simp only [Lit.wf,QB,QQ]at this
 exact this
theorem QjQ {α:Type}{ok:α->Prop}{l:List α}{d:DataW H}(h:wfL (fun x _=>ok x) l d):okL ok l:=by
 refine⟨h.1,fun x hx=>?_⟩
 rcases h.2 with⟨_,rfl⟩|⟨es,sp,_,h3,h4⟩
 ·simp at hx
 obtain⟨i,hi⟩:=Qlo.1 hx
 have hlt:i<es.length:=by rw [h3];exact(QT.1 hi).1
 exact h4 i x _ hi (QG hlt)
theorem QCf {w:World}{r:Reach}{base t tot:Nat}{v:Value}{fs:List (Nat×Nat)}(h:QuP P t fs tot=true)(hv:Value.okWide P w r base t v):∃cs,v=.agg cs:=by
 obtain⟨gs,h1,_⟩:=Qvu h
 obtain⟨cs,h2,_⟩:=WideShapes.okWide_struct h1 hv
 exact⟨cs,h2⟩
theorem Qk4 {z:Nat}{r:List V}(h:(Nat.beq r.length z&&r.all V.one)=true):Qfv z r:=by
 rw [QB,Qad]at h
 exact⟨QaL h.1,h.2⟩
end
section
variable {H:Type}{enc:TypeId×Value->H}{P:Program}
theorem Qc.law {f:FuncId}{us:List V}{args:Array Value}{W:World}(h:Qc P f us [] (Gives (.b true) []))(hG:QmY P (fun k=>k<W.heap.size) W)(hs:args.size=us.length)
  (ha:∀(j:Nat) x v,args[j]? = some x->us[j]? = some v->Dat (fun k=>k<W.heap.size) W x v):Calls P f args W fun e w'=>e=.returned (.bool true)/\Below W.heap.size W w':=by
 refine(h (fun k=>k<W.heap.size) (fun _=>none) W args ⟨fun k hk=>hk,fun _ _ _ _ _ h=>(by cases h),fun _ _ h=>(by cases h),hs,fun j x v h1 h2=>.dat (ha j x v h1 h2),fun _ _ h=>(by cases h)⟩ hG).mono ?_
 rintro e w' ⟨x,v,hs',φ',rfl,⟨rfl,_⟩,out⟩
 exact⟨by rw [out.rep.b_inv],out.os,out.tape,out.output,out.size,fun k hk=>out.kept k hk fun _ _ h=>by cases h⟩
theorem Qs3 (hl:laidOutB P=true){W W':World}(hb:Below W.heap.size W W'):∀{ts:List TypeId} {vs:List Value} {ds:List (DataW H)} {ps:List MemPlace},(∀t∈ts,P.readableRec t=true/\t<P.types.size)->
  DataW.TrodAll enc P W 0 (fun _=>true) true ts vs ds ps->(∀x∈ps,x.block<W.heap.size)->DataW.TrodAll enc P W' 0 (fun b=>decide (b<W.heap.size)) true ts vs ds ps
 | [],[],[],_,_,h,_=>h
 | t::ts,v::vs,d::ds,_,hr,⟨p,q,h1,h2,e⟩,hlt=>⟨p,q,Below.trod hl (hr t (Qbz)).1 (hr t (Qbz)).2 h1 hb (fun x hx=>hlt x (by rw [e];exact List.mem_append_left _ hx)),
   Qs3 hl hb (fun t ht=>hr t (Qb1 _ ht)) h2 (fun x hx=>hlt x (by rw [e];exact List.mem_append_right _ hx)),e⟩
theorem QCg {f:Func}{s:ChangeSpec}{apart fresh:Bool}{W W':World}{args:Array Value}{ds:List (DataW H)}{before:List MemPlace}{tb:TypeId}(hl:laidOutB P=true)(hr:∀t∈f.params.toList,P.readableRec t=true/\t<P.types.size)
  (hW:DataW.Whole enc P f.params.toList s.vars apart W args.toList ds [] before) (hv:s.vars=[]) (hb:Below W.heap.size W W') (hrt:f.resultTypes=#[tb]) (htb:P.underlying tb=some .bool)
  (hres:(s.fn H (ds++[])).results=[.lit (.bool true)]) (hargs:(s.fn H (ds++[])).args=ds) (hvars:(s.fn H (ds++[])).vars=[]):s.post enc P f apart fresh false false W args (.bool true) W':=by
 have hW0:=hW
 obtain⟨p,q,hA,hV,rfl,_,_⟩:=hW
 have hlt:=hW0.lt
 rw [hv]at hV
 have hq:q=[]:=hV
 subst hq
 refine⟨ds,[],_,[],p,[],hW0,?_,?_,?_,?_,fun h=>by cases h⟩
 ·rw [hres,hrt]
  exact⟨[],[],shut_bool htb true,rfl,rfl⟩
 ·rw [hargs]
  exact Qs3 hl hb hr hA fun x hx=>hlt x (List.mem_append_left _ hx)
 ·rw [hvars,hv];rfl
 exact World.keptBut_mono (fun p hp=>hp.elim) (hb.frame (fun _=>False))
theorem Cl.arg1 {w:World}{v:Value}{x:V}(hv:v.cells.toList=[v])(h:Cl w v.cells.toList [x]):Dat (fun k=>k<w.heap.size) w v x:=h.2 0 v x (by rw [hv];rfl) rfl
theorem Cl.argS {w:World}{cs:Array Value}{vs:List V}(h:Cl w (Value.agg cs).cells.toList vs):Dat (fun k=>k<w.heap.size) w (.agg cs) (.agg vs):=by
 refine .agg cs vs (by simpa [Value.cells] using h.1) fun j x v hx hv=>h.2 j x v (by simpa [Value.cells] using hx) hv
theorem Rd.open {α:Type}{w:World}{t:TypeId}{row:α->List V}{wf:α->DataW H->Prop}{v:Value}{d:DataW H}{p:List MemPlace}(h:∀N,Rd enc P w N t row wf)(hd:DataW.Trod enc P w 0 (fun _=>true) true t v d p):∃x,wf x d/\Cl w v.cells.toList (row x):=by
 obtain⟨n,hn⟩:=hd
 exact h n n _ _ _ (Qb2 _) hn
end
end Go.Vm
namespace Go.Vm
open Go Go.RowKit
section
variable {P:Program}{C:Ctx}{Q:Exit->St->Prop}{σ:St}{ks:List Fr}{o:Oper}
theorem Qyg {σ':St}{φ φ':Prop}{d f:Nat}{vs us:List V}{M N:List (Nat×Nat)}{dead:List Nat}{ms:List Qel}{outs hsC:List (Nat×Ob)}{r:V}
  (hus:Qke (bkM M) ms vs=some us) (hC:Qgq (bkM M) (look σ.hp) M=some hsC)
  (e:cmV P σ φ d f vs M N dead ms outs r=some (σ',φ')):∃hsN r',QcL σ M N dead outs=true/\(M.map Prod.fst).Nodup/\Vws σ.hp false false (QeB M) (fun a b=>look M b=some a) vs us/\QiN σ.hp false false (QeB M) (fun a b=>look M b=some a) σ.hp M hsC/\
   QiN [] false false [] (fun c b=>look N b=some c) outs N hsN/\Vw [] false false [] (fun c b=>look N b=some c) r r'/\σ'=(σ.after dead hsN).put d r':=by
 unfold cmV at e
 replace e:=Qaf e;obtain⟨e1,e⟩:=e
 simp only [QB]at e1
 obtain⟨⟨h1,h2⟩,h3⟩:=e1
 have h2:=Qb4.1 h2
 have h3:=Qb4.1 h3
 have inj:QgW M=true/\QgW N=true:=by
  simp only [QcL,QB]at h1
  exact⟨h1.1.1.1,h1.1.1.2⟩
 have mM:∀a b,bkM M a=some b->look M b=some a:=fun a b h=>Qbc inj.1 (Qe5 h) h2
 have mN:∀a b,bkM N a=some b->look N b=some a:=fun a b h=>Qbc inj.2 (Qe5 h) h3
 simp only [hus,hC]at e
 split at e
 ·rename_i hsN hN
  split at e
  ·rename_i r' hr
   cases e
   exact⟨hsN,r',h1,h2,QgX mM hus,Qcv mM hC,Qcv mN hN,QjN mN hr,rfl⟩
  cases e
 cases e
theorem AK.callE {ι:Type}[Inhabited ι]{Φ:ι->Prop}{d f n:Nat}{ops:Array Oper}{rest:List Oper}{vs us:List V}{hsC:List (Nat×Ob)}(M N:List (Nat×Nat))(dead:List Nat)(ms:List Qel)(outs:ι->List (Nat×Ob))(r:ι->V)(σ':ι->St)
  (hg:o.guard=none) (hCn:Qdb P C n) (hE:Qbb P C o σ f vs) (hd:o.dst=some d) (hn:Nat.ble (d+1) C.n=true)
  (hus:Qke (bkM M) ms vs=some us) (hC:Qgq (bkM M) (look σ.hp) M=some hsC)
  (hc:Qc P f us hsC fun v hs=>∃x,Φ x/\Gives (r x) (outs x) v hs)
  (e:∀x,∃φ',cmV P σ True d f vs M N dead ms (outs x) (r x)=some (σ' x,φ'))
  (k:∀x,Φ x->AK P C Q (.o ops rest) ks (σ' x)):AK P C Q (.o ops (o::rest)) ks σ:=by
 intro a w ⟨φ,hr⟩
 simp only [wpListIn,Region.wanted,hg,if_true]
 refine⟨fun _ _=>trivial,?_⟩
 obtain⟨vals,hex,h1,h2⟩:=hE φ a w hr
 rw [Qrs hex,Oper.uponIn_enter]
 obtain⟨_,e0⟩:=e default
 obtain⟨_,_,n1,n2,hv,hobs,_,_,_⟩:=Qyg hus hC e0
 have hN0:=Names.of n1 n2
 refine⟨(fun h=>by cases h),Qo5 ((hc _ _ w _ (Ins.of_vals hr h1 h2 hN0.injM hN0.param hv hobs) ((hr.glob hCn.g).mono fun _ h=>.inl h)).mono ?_)⟩
 rintro e' w' ⟨x,v,hs',φ',rfl,⟨i,hΦ,rfl,hso⟩,hout⟩
 obtain⟨_,ei⟩:=e i
 obtain⟨hsN,r',n1,n2,_,_,hback,hr',hσ⟩:=Qyg hus hC ei
 have hN:=Names.of n1 n2
 obtain⟨h3,h4⟩:=hr.after hN hout hso (fun c s h=>by
  obtain⟨ob',e1⟩:=hobs.get.2 c s h
  obtain⟨s',ob,e2,e3,_⟩:=hobs.get.1 c ob' e1
  rw [h]at e2;cases e2;exact⟨ob,e3⟩) hback
 refine k i hΦ _ _ ⟨QjM φ M N dead φ',?_⟩
 rw [hd,hσ]
 exact h3.put (Qaj hn) (h4 hr')
theorem Qyh {σ':St}{φ':Prop}{f:Nat}{vs us:List V}{M N:List (Nat×Nat)}{dead:List Nat}{ms:List Qel}{outs hsC:List (Nat×Ob)}{r:V}
  (hus:Qke (bkM M) ms vs=some us) (hC:Qgq (bkM M) (look σ.hp) M=some hsC)
  (e:rgV P σ f vs M N dead ms outs r=some (σ',φ')):∃hsN,QcL σ M N dead outs=true/\(M.map Prod.fst).Nodup/\Vws σ.hp false false (QeB M) (fun a b=>look M b=some a) vs us/\QiN σ.hp false false (QeB M) (fun a b=>look M b=some a) σ.hp M hsC/\
   QiN [] false false [] (fun c b=>look N b=some c) outs N hsN/\σ'=σ.after dead hsN:=by
 unfold rgV at e
 replace e:=Qaf e;obtain⟨e1,e⟩:=e
 simp only [QB]at e1
 obtain⟨⟨h1,h2⟩,h3⟩:=e1
 have h2:=Qb4.1 h2
 have h3:=Qb4.1 h3
 have inj:QgW M=true/\QgW N=true:=by
  simp only [QcL,QB]at h1
  exact⟨h1.1.1.1,h1.1.1.2⟩
 have mM:∀a b,bkM M a=some b->look M b=some a:=fun a b h=>Qbc inj.1 (Qe5 h) h2
 have mN:∀a b,bkM N a=some b->look N b=some a:=fun a b h=>Qbc inj.2 (Qe5 h) h3
 simp only [hus,hC]at e
 split at e
 ·rename_i hsN hN
  cases e
  exact⟨hsN,h1,h2,QgX mM hus,Qcv mM hC,Qcv mN hN,rfl⟩
 cases e
theorem AK.rangeFE {ι:Type}[Inhabited ι]{Φ:ι->Prop}{g:Operand}{ps:Array Tmp}{assign body:Code}{f n:Nat}{fs cps:List V}(b:Nat)(ts:List Nat)(M N:List (Nat×Nat))(dead:List Nat)(ms:List Qel)(K:Nat->QeS)(hCn:Qdb P C n)(hrnd:C.rnd=none)(hK:∀fn,K fn=⟨fn,ps,assign,body⟩)
  (hg:σ.opd g=some (.clo (.func f) fs cps)) (he:Qq8 P f=true) (hb:look σ.hp b=none) (hb2:Nat.ble 616 b=false)
  (H:∀l fn,∃(outs:ι->List (Nat×Ob)) (r:ι->V) (σ2:ι->St) (us:List V) (hsC:List (Nat×Ob)),Qke (bkM M) ms (fs++(.clo (.yield l) [] []::cps))=some us/\Qgq (bkM M) (look (σ.set b (.lp l (K fn) (snap ts σ.fr n) 0)).hp) M=some hsC/\
   Qc P f us hsC (fun v hs=>∃x,Φ x/\Gives (r x) (outs x) v hs)/\∀x,∃φ2 cs2 q,rgV P (σ.set b (.lp l (K fn) (snap ts σ.fr n) 0)) f (fs++(.clo (.yield l) [] []::cps)) M N dead ms (outs x) (r x)=some (σ2 x,φ2)/\look (σ2 x).hp b=some (.lp l (K fn) cs2 q)/\q≠1/\
   (Φ x->atJ (AK P C Q (.x .normal) ks ((σ2 x).kill b)) (fun c=>AK P C Q (.c c) ks ((σ2 x).kill b)) (jmp q))):AK P C Q (.c (.rangeFunc g ps assign body)) ks σ:=by
 obtain rfl:K=fun fn=>⟨fn,ps,assign,body⟩:=funext hK
 have hpg:=hCn.g
 replace hCn:=hCn.n
 subst hCn
 intro a w ⟨φ,hr⟩
 refine wpIn_rangeFunc fun fn _=>?_
 obtain⟨outs,r,σ2,us,hsC,hus,hC,hcall,hx⟩:=H (w.heap.size+1) fn
 obtain⟨xs,ys,hev,e1,e2,e3,e4⟩:=(hr.opd hg).clo_inv
 have hb3:b<616:=Qfg (by rw [hb2];rfl)
 refine⟨w.heap.size+1,[{ target:=.collected w.heap.size,args:=#[] }],(w.alloc (.deferred (some []))).alloc (.loop { state:=.ready,pending:=none,fn,tmps:=a.tmps,params:=ps,assign,body,defers:=w.heap.size }),{ target:=.fn (.func f) ys,args:=xs++#[.func (.yield (w.heap.size+1)) #[] #[]] },(w.alloc (.deferred (some []))).alloc (.loop { state:=.ready,pending:=none,fn,tmps:=a.tmps,params:=ps,assign,body,defers:=w.heap.size }),f,(xs++#[.func (.yield (w.heap.size+1)) #[] #[]])++ys,(w.alloc (.deferred (some []))).alloc (.loop { state:=.ready,pending:=none,fn,tmps:=a.tmps,params:=ps,assign,body,defers:=w.heap.size }),?_,?_,fun _ _=>trivial,?_,(fun h=>by cases h),?_⟩
 ·rw [show C.F.round=none from hrnd];exact run_enterLoop_outer _ _ _ _ _
 ·have hy:a.eval (.const (.func (.yield (w.heap.size+1)) #[] #[]))=.func (.yield (w.heap.size+1)) #[] #[]:=rfl
  simp only [resolve,hev,Deferred.ofValue,Sem.run_pure,List.map_toArray,Qgc,List.map_nil,hy]
 ·exact Qhs he
 have hm:=hr.mark
 have hN0:=hm.none_of_look hb
 have hsz:(w.alloc (.deferred (some []))).heap.size=w.heap.size+1:=by simp
 have hR1:=hm.alloc (cap:=0) (z:=0) hb hb3 (ob:=.lp (w.heap.size+1) ⟨fn,ps,assign,body⟩ (snap ts σ.fr C.n) 0)
  (obj:=.loop { state:=.ready,pending:=none,fn,tmps:=a.tmps,params:=ps,assign,body,defers:=w.heap.size })
  ⟨a.tmps,w.heap.size,hsz,rfl,by rw [<-hsz];exact World.alloc_heap_new _ _,by rw [hr.tmps];simp [Vm.snap],fun j x v hx hv=>(hm.snap j x v hx hv).mono (hm.mono_ext _ hN0) (hm.imm_alloc b 0 0 _ hN0)⟩
 rw [hsz]at hR1
 generalize hσ1:σ.set b (.lp (w.heap.size+1) ⟨fn,ps,assign,body⟩ (snap ts σ.fr C.n) 0)=σ1 at hR1 hx hC
 generalize hw1:(w.alloc (.deferred (some []))).alloc (.loop { state:=.ready,pending:=none,fn,tmps:=a.tmps,params:=ps,assign,body,defers:=w.heap.size })=w1 at hR1 ⊢
 have hval:(xs++#[.func (.yield (w.heap.size+1)) #[] #[]])++ys=(xs.toList++(.func (.yield (w.heap.size+1)) #[] #[]::ys.toList)).toArray:=by apply Array.ext';simp
 rw [hval]
 obtain⟨_,_,_,ed,_⟩:=hx default
 obtain⟨_,n1,n2,hv,hobs,_,_⟩:=Qyh hus hC ed
 have hNm:=Names.of n1 n2
 have hfr1:σ1.fr=σ.fr:=by rw [<-hσ1];rfl
 refine Qo5 ((hcall _ _ w1 _ (Ins.of_vals (g:=false) (vs:=fs++(.clo (.yield (w.heap.size+1)) [] []::cps)) hR1 (by simp [e1,e2]) (fun j x v hx hv=>?_) hNm.injM hNm.param hv hobs) ((hR1.glob hpg).mono fun _ h=>.inl h)).mono ?_)
 ·have up:=fun {x:Value} {v:V} (h:Rep φ (Imm C φ w) w x v)=>(h.mono (φ':=φ) (I':=Imm C φ (w.alloc (.deferred (some [])))) (w':=w.alloc (.deferred (some []))) (fun _ _ h=>h) fun k hk=>⟨⟨by have:=hk.1;simp;omega,hk.2⟩,Below.heap_alloc w _ k hk.1⟩).mono (hm.mono_ext ⟨w.heap.size+1,0,0,[],0⟩ hN0) (by
   have:=hm.imm_alloc b 0 0 (.loop { state:=.ready,pending:=none,fn,tmps:=a.tmps,params:=ps,assign,body,defers:=w.heap.size }) hN0
   rw [hsz,hw1]at this;exact this)
  by_cases c1:j<fs.length
  ·rw [Qbf (by simpa using (by omega:j<xs.size))]at hx
   rw [Qbf c1]at hv
   exact up (e3 j x v (by simpa using hx) hv)
  rw [Qcf (by simp;omega)]at hx
  rw [Qcf (by omega)]at hv
  simp only [Qxq]at hx
  rw [e1]at hx
  generalize j-fs.length=i at hx hv
  cases i with
  | zero=>
   simp at hx hv;subst hx;subst hv
   exact .clo (.yield _) #[] #[] [] [] rfl rfl (fun j x v h=>by simp at h) (fun j x v h=>by simp at h)
  | succ i=>simp only [Qr8]at hx hv;exact up (e4 i x v (by simpa using hx) hv)
 rintro e w' ⟨x,v,hs',φ',rfl,⟨i,hΦ,rfl,hso⟩,hout⟩
 obtain⟨_,cs2,q,ei,hq,hq1,hk⟩:=hx i
 replace hk:=hk hΦ
 obtain⟨hsN,n1,n2,_,_,hback,hσ2⟩:=Qyh hus hC ei
 have hNm:=Names.of n1 n2
 obtain⟨k3,_⟩:=hR1.after hNm hout hso (fun c s h=>by
  obtain⟨ob',e1⟩:=hobs.get.2 c s h
  obtain⟨s',ob,e2,e3,_⟩:=hobs.get.1 c ob' e1
  rw [h]at e2;cases e2;exact⟨ob,e3⟩) hback
 rw [<-hσ2]at k3
 obtain⟨B,hB,tmps,D,f1,f2,f3,f4,f5⟩:=k3.lp hq
 have hst:lst q≠.busy:=by
  match q,hq1 with
  | 0,_=>exact(by intro h;cases h)
  | 1,h=>exact absurd rfl h
  | k+2,_=>exact(by intro h;cases h)
 refine⟨_,_,run_endLoop f3 hst,?_⟩
 have hkill:=k3.killTo hB (w':=w'.putObj (w.heap.size+1) (.loop { state:=.exhausted,pending:=jmp q,fn,tmps,params:=ps,assign,body,defers:=D })) rfl rfl rfl World.putObj_size (fun k hk=>World.putObj_heap_other (by rw [<-f1];exact hk))
 simp only
 cases hj:jmp q with
 | none=>rw [hj]at hk hkill;exact hk _ _ ⟨_,hkill⟩
 | some c=>rw [hj]at hk hkill;exact hk _ _ ⟨_,hkill⟩
end
def QAs (n:Nat)(p:Int×Int):Option (Nat⊕Empty):=some (.inl (n+1))
theorem QvG : ∀(l:List (Int×Int)) (n:Nat),Qem QAs n l=some (.inl (n+l.length)):=by
 intro l
 induction l with
 | nil=>intro n;rfl
 | cons p l ih=>intro n;simp only [Qem,QAs,Ql,Sum.elim_inl];rw [ih];simp [Nat.add_comm,Nat.add_left_comm]
theorem QBj (l:List (Int×Int))(n:Nat):Qmj QAs n l=some (.inl (n+l.length)):=Qmk.2 ⟨fun l' h=>by rw [QvG,QvG,h.length_eq],QvG l n⟩
theorem QAt {l m:List Int}(h:l.Perm m):Qep l=Qep m:=by
 rw [QsC,QsC]
 refine List.Perm.eq_of_pairwise (le:=fun x y:Int=>x<=y) ?_ ?_ ?_ ?_
 ·intro a b _ _ h1 h2;omega
 ·exact(List.pairwise_mergeSort (le:=fun x y:Int=>decide (x<=y)) (fun a b c h1 h2=>by simp at *;omega) (fun a b=>by simp;omega) l).imp fun h=>by simpa using h
 ·exact(List.pairwise_mergeSort (le:=fun x y:Int=>decide (x<=y)) (fun a b c h1 h2=>by simp at *;omega) (fun a b=>by simp;omega) m).imp fun h=>by simpa using h
 exact((List.mergeSort_perm l _).trans h).trans (List.mergeSort_perm m _).symm
end Go.Vm
namespace Go.Vm
open Go Go.RowKit
def spZ : List Int:=(List.range 256).map fun c=>if Lib.isSp (UInt8.ofNat c)then 1 else 0
theorem QzH {P:Program}{W:World}(h:Lib.TabIs P W "strings.asciiSpace" .u8 spZ):QmY P (fun k=>k<W.heap.size) W:=fun g hg=>by
 have hc:∀c:Nat,c<256->W.cell? ⟨g,c,none⟩=some (.int .u8 (if Lib.isSp (UInt8.ofNat c)then 1 else 0)):=fun c hc=>by
  rw [h.cell hg c (by simp only [spZ,Qlm,QuJ];exact hc)]
  simp [spZ,List.getD,hc]
 have h0:g<W.heap.size:=by
  have:=hc 0 (by decide)
  apply Nat.lt_of_not_le
  intro hle
  have e:W.heap[g]? = none:=Array.getElem?_eq_none hle
  simp [World.cell?,e]at this
 exact⟨h0,h0,hc⟩
theorem Qza {P:Program}{W:World}{l r:List (String×DataW Unit)}{g:Nat}{t e:TypeId}(n:Nat)(hl:l.drop n=("strings.asciiSpace",Lib.tabData .u8 spZ)::r)(hp:(l.all fun x=>x.2.handleName?.isNone)=true)
  (hg:P.globalNamed "strings.asciiSpace" = some g) (hty:(P.globals[g]?).map (·.type)=some t) (ht:P.underlying t=some (.array 256 e)) (he:P.underlying e=some (.int .u8)) (hce:P.cellsOf e=1) (hct:P.cellsOf t=256)
  (h:laidMetH P l W):QmY P (fun k=>k<W.heap.size) W:=by
 rw [MakeChecks.laidMetH_plain _ _ _ hp]at h
 have key:∀(n:Nat) (l:List (String×DataW Unit)),laidMet P l W->laidMet P (l.drop n) W:=by
  intro n
  induction n with
  | zero=>intro l h;exact h
  | succ n ih=>
   intro l h
   cases l with
   | nil=>exact h
   | cons x l=>exact ih l h.tail
 have h2:=key n l h
 rw [hl]at h2
 exact QzH (Lib.tabIs_of_head hg hty ht he hce hct h2)
end Go.Vm
namespace Go.Vm
open Go Go.RowKit
variable {H:Type}{P:Program}
def Sz (P:Program)(t:Nat)(d:DataW H):Prop:=∀n∈d.weights P t,n<=reachBytes
theorem Sz.all {ts:List TypeId}{ds:List (DataW H)}(h:(DataW.weightsEach P ts ds).all (·<=reachBytes)=true){j:Nat}{t:Nat}{d:DataW H}(ht:ts[j]? = some t)(hd:ds[j]? = some d):Sz P t d:=fun n hn=>by
 have:=Qad.1 h n (DataW.weights_mem_each ht hd n hn)
 simpa using this
theorem Sz.field {t:Nat}{fs:Array Field}(hu:P.underlying t=some (.struct fs)){ds:List (DataW H)}(h:Sz P t (.agg ds)){j:Nat}{u:Nat}{d:DataW H}(ht:(fs.toList.map (·.type))[j]? = some u)(hd:ds[j]? = some d):Sz P u d:=fun n hn=>h n (by
 simp only [DataW.weights,hu]
 exact DataW.weights_mem_each ht hd n hn)
end Go.Vm
namespace Go.Vm
open Go Go.RowKit
section
variable {κ α:Type}[DecidableEq κ]
theorem QwJ {π:Type}{L:List (Nat×π)}{seen:Array Nat}{y:Nat}:QaQ L (seen.push y)=(QaQ L seen).filter fun q=>!(q.1==y):=by
 unfold QaQ
 rw [List.filter_filter]
 apply List.filter_congr
 intro q _
 rw [Qr6]
 simp [Array.mem_push]
 constructor
 ·rintro ⟨h1,h2⟩;exact⟨h2,h1⟩
 rintro ⟨h1,h2⟩;exact⟨h2,h1⟩
structure QoN (L L':List (Nat×(κ×α))) (seen:Array Nat):Prop where
 keys:L'.map (·.2.1)=L.map (·.2.1)
 left:QaQ L' seen=QaQ L seen
theorem QoN.refl {L:List (Nat×(κ×α))}{seen:Array Nat}:QoN L L seen:=⟨rfl,rfl⟩
theorem QoN.push {L L':List (Nat×(κ×α))}{seen:Array Nat}(h:QoN L L' seen)(y:Nat):QoN L L' (seen.push y):=⟨h.keys,by rw [QwJ,QwJ,h.left]⟩
theorem QoN.nil {L L':List (Nat×(κ×α))}{seen:Array Nat}(h:QoN L L' seen)(hq:QaQ L' seen=[]):QaQ L seen=[]:=by rw [<-h.left];exact hq
theorem QoN.mem {L L':List (Nat×(κ×α))}{seen:Array Nat}(h:QoN L L' seen){q:Nat×(κ×α)}(hq:q∈QaQ L seen):q∈QaQ L' seen:=by rw [h.left];exact hq
end
section
variable {P:Program}{C:Ctx}{σ:St}{o:Oper}{κ α:Type}[DecidableEq κ]
end
theorem AK.know {P:Program}{C:Ctx}{Q:Exit->St->Prop}{σ:St}{ks:List Fr}{pt:Pt}{p:Prop}(h:∀a w,R C σ a w->p)(k:p->AK P C Q pt ks σ):AK P C Q pt ks σ:=
 AK.weakenE (ι:=PLift p) (f:=fun _=>σ) (fun a w hR=>⟨⟨h a w hR⟩,hR⟩) fun i=>k i.down
theorem AK.openMapK {P:Program}{C:Ctx}{Q:Exit->St->Prop}{σ:St}{ks:List Fr}{κ α:Type}[DecidableEq κ]{K:TypeId}{e:κ->V}{val:κ->Value}{f:α->V}{lt:List (κ×α)}{b:Nat}{pt:Pt}(hk:QgD P K e val)(hb:look σ.hp b=some (.map (QW e f lt)))
  (h:∀bm clock (L:List (Nat×(κ×α))),(L.map (·.1)).Nodup->(L.map (·.2.1)).Nodup->(L.map Prod.snd).Perm lt->AK P C Q pt ks (σ.set b (.mapX bm clock (QkT e f L) (QW e f lt)))):AK P C Q pt ks σ:=by
 refine AK.openMap hk hb fun bm clock L h1 h2=>AK.know (p:=(lt.map Prod.fst).Nodup) (fun a w ⟨φ,hr⟩=>?_) fun hn=>h bm clock L h1 ?_ h2
 ·rcases hr.heap b _ (St.look_set_same _ _ _)with⟨B,hB,_,M,_,_,_,g3,_⟩|⟨_,e'⟩
  ·exact(QoM hk.einj).1 g3
  exact e'.elim
 have:=(h2.map Prod.fst).nodup_iff.2 hn
 rw [Qmc]at this
 exact this
end Go.Vm
namespace Go.Vm
open Go Go.RowKit
def V.lo1 : V->V
 | .sln _ z rs=>.sl z rs
 | v=>v
def V.lo2 : V->V
 | .sln _ z rs=>.sl z (rs.map (List.map V.lo1))
 | v=>v
def V.lo3 : V->V
 | .tup cs=>.tup (cs.map V.lo2)
 | v=>v.lo2
theorem V.lo1_one (v:V):v.lo1.one=v.one:=by cases v<;>rfl
theorem Dat.lo {I:Nat->Prop}{w:World}{x:Value}{v:V}(d:Dat I w x v):Dat I w x v.lo1:=by cases v<;>first | exact d | exact d.lo1
theorem Qfv.lo {z:Nat}{r:List V}(h:Qfv z r):Qfv z (r.map V.lo1):=⟨by simpa using h.1,fun v hv=>by obtain⟨u,hu,rfl⟩:=QaE.1 hv;rw [V.lo1_one];exact h.2 u hu⟩
theorem Dat.loR {I:Nat->Prop}{w:World}{x:Value}{z:Nat}{rs:List (List V)}(d:Dat I w x (.sl z rs)):Dat I w x (.sl z (rs.map (List.map V.lo1))):=by
 cases d with
 | sl0=>exact .sl0 _ _ _
 | sl b off len cap _ _ c hI hl hc hr hcell hd=>
  refine .sl b off len cap z _ c hI (by simpa using hl) hc (fun r hr'=>?_) hcell (fun i r hi j v hj=>?_)
  ·obtain⟨s,hs,rfl⟩:=QaE.1 hr';exact(hr s hs).lo
  rw [Qak]at hi
  obtain⟨s,hs,rfl⟩:=Qas.1 hi
  rw [Qak]at hj
  obtain⟨u,hu,rfl⟩:=Qas.1 hj
  exact(hd i s hs j u hu).lo
theorem Rep.lo2 {φ:Nat->Option Blk}{I:Nat->Prop}{w:World}{x:Value}{v:V}(d:Rep φ I w x v):Rep φ I w x v.lo2:=by
 cases v with
 | sln β z rs=>cases d with | dat d=>exact .dat d.lo1.loR
 | _=>exact d
theorem Rep.lo3 {φ:Nat->Option Blk}{I:Nat->Prop}{w:World}{x:Value}{v:V}(d:Rep φ I w x v):Rep φ I w x v.lo3:=by
 cases v with
 | tup cs=>
  obtain⟨xs,rfl,hs,hr⟩:=d.tup_inv
  refine .tup xs _ (by simpa using hs) fun j y u hy hu=>?_
  rw [Qak]at hu
  obtain⟨s,hs',rfl⟩:=Qas.1 hu
  exact(hr j y s hy hs').lo2
 | sln β z rs=>exact d.lo2
 | _=>exact d
theorem Qai.lo {P:Program}{f:FuncId}{us:List V}{hs:List (Nat×Ob)}{r r':V}(h:Qai 0 P f us hs (Gives r []))(e:r.lo3=r'):Qc P f us hs (Gives r' []):=by
 subst e
 exact fun S φ w vals hi hG=>(h S φ w vals (Qnl _) hi hG).mono fun e w' ⟨x,v,hs',φ',h1,⟨h2,_⟩,ho⟩=>by
  subst h2
  exact⟨x,v.lo3,hs',φ',h1,⟨rfl,fun c ob h=>by cases h⟩,{ ho with rep:=ho.rep.lo3 }⟩
theorem Qai.loO {P:Program}{f:FuncId}{us:List V}{hs:List (Nat×Ob)}{m z:Nat}{rs rs':List (List V)}(h:Qai 0 P f us hs (Gives (.own 600 m) [(600,.arr z rs)]))(e:rs.map (List.map V.lo1)=rs'):Qc P f us hs (Gives (.own 600 m) [(600,.arr z rs')]):=by
 subst e
 exact fun S φ w vals hi hG=>(h S φ w vals (Qnl _) hi hG).mono fun e w' ⟨x,v,hs',φ',h1,⟨h2,h3⟩,ho⟩=>by
  subst h2
  have hl:=h3 600 _ rfl
  refine⟨x,_,(600,.arr z (rs.map (List.map V.lo1)))::hs',φ',h1,⟨rfl,fun c ob h=>?_⟩,{ ho with dom:=fun o B hB=>?_,stay:=⟨ho.stay.1,fun o ob B h1 h2 h3=>ho.stay.2 o ob B h1 (by rwa [Qr _ _ (by omega)]at h2) h3⟩,heap:=fun o ob hob=>?_ }⟩
  ·by_cases e:600=c
   ·subst e;rw [Qv]at h ⊢;exact h
   rw [Qr _ _ e]at h;cases h
  ·by_cases e:600=o
   ·subst e;exact⟨_,Qv _ _ _⟩
   rw [Qr _ _ e];exact ho.dom o B hB
  by_cases e:600=o
  ·subst e
   rw [Qv]at hob;cases hob
   rcases ho.heap 600 _ hl with⟨B,hB,a1,a2,a3,cs,E,a4,a5,a6⟩|⟨hn,hz⟩
   ·refine .inl ⟨B,hB,a1,by simpa using a2,fun r hr=>?_,cs,E,a4,a5,fun i r hi j v hj=>?_⟩
    ·obtain⟨s,hs,rfl⟩:=QaE.1 hr;exact(a3 s hs).lo
    rw [Qak]at hi
    obtain⟨s,hs,rfl⟩:=Qas.1 hi
    rw [Qak]at hj
    obtain⟨u,hu,rfl⟩:=Qas.1 hj
    obtain⟨y,hy,hd⟩:=a6 i s hs j u hu
    exact⟨y,hy,hd.lo⟩
   have hz:rs=[]:=hz
   subst hz
   exact .inr ⟨hn,rfl⟩
  rw [Qr _ _ e]at hob;exact ho.heap o ob hob
section
variable {P:Program}{C:Ctx}{Q:Exit->St->Prop}{σ σ':St}{ks:List Fr}{ops:Array Oper}{o:Oper}{l:List Oper}
def QAu {ι:Type _}(P:Program)(C:Ctx)(o:Oper)(σ:St)(f:ι->St):Prop:=
 ∀a w,R C σ a w->∀(next:Act->World->Prop) (Q:Exit->Act->World->Prop),(∀i a' w',R C (f i) a' w'->next a' w')->o.wpIn C.F 0 P a w next Q
theorem AK.opE {ι:Type _}{f:ι->St}(hg:o.guard=none)(h:QAu P C o σ f)(k:∀i,AK P C Q (.o ops l) ks (f i)):AK P C Q (.o ops (o::l)) ks σ:=by
 intro a w hR
 simp only [wpListIn,Region.wanted,hg,if_true]
 exact(h a w hR _ _ fun i a' w' hR'=>k i a' w' hR')
def Pl (I:Nat->Prop)(w:World)(β k:Nat):Prop:=I k/\β<=k/\∃cs E,w.heap[k]? = some (.cells cs E (0,0))
def QoO (β:Nat)(r:V)(rv:Value->V)(v:V):Prop:=∀(φ:Nat->Option Blk) (I:Nat->Prop) (w:World) (y:Value),Rep φ I w y r->∃x,Dat (Pl I w β) w x v/\∀φ' I' w',Rep φ' I' w' y (rv x)
def V.new1 (β:Nat):V->Prop
 | .sln γ _ rs=>γ=β/\∀r∈rs,∀v∈r,v.sca=true
 | v=>v.sca=true
theorem Dat.new1 {β:Nat}{I:Nat->Prop}{w:World}{x:Value}{v:V}(d:Dat I w x v)(h:v.new1 β):Dat (Pl I w β) w x v.lo1:=by
 cases v with
 | sln γ z rs=>
  obtain⟨rfl,h2⟩:=h
  refine Dat.lo1 (β:=γ) ?_
  cases d with
  | sln0=>exact .sln0 _ _ _ _
  | sln _ b off len cap _ _ cs E hβ hI hl hc hr hcell hsz hd=>exact .sln γ b off len cap z rs cs E hβ ⟨hI,hβ,cs,E,hcell⟩ hl hc hr hcell hsz fun i r hi j v hj=>(hd i r hi j v hj).sca (h2 r (Qaa hi) v (Qaa hj))
 | _=>first | exact d.sca h | cases h
theorem Dat.new2 {β z:Nat}{rs:List (List V)}{I:Nat->Prop}{w:World}{x:Value}(d:Dat I w x (.sln β z rs))(h:∀r∈rs,∀v∈r,v.new1 β):Dat (Pl I w β) w x (.sl z (rs.map (List.map V.lo1))):=by
 cases d with
 | sln0=>exact .sl0 _ _ _
 | sln _ b off len cap _ _ cs E hβ hI hl hc hr hcell hsz hd=>
  refine .sl b off len cap z _ (fun j=>cs.getD (off+j) undef) ⟨hI,hβ,cs,E,hcell⟩ (by simpa using hl) hc (fun r hr'=>?_) (fun j hj=>?_) (fun i r hi j v hj=>?_)
  ·obtain⟨s,hs,rfl⟩:=QaE.1 hr';exact(hr s hs).lo
  ·have:off+j<cs.size:=by omega
   simp [World.cell?,hcell,Array.getD,this]
  rw [Qak]at hi
  obtain⟨s,hs,rfl⟩:=Qas.1 hi
  rw [Qak]at hj
  obtain⟨u,hu,rfl⟩:=Qas.1 hj
  exact(hd i s hs j u hu).new1 (h s (Qaa hs) u (Qaa hu))
theorem QoO.one {β z:Nat}{rs:List (List V)}(h:∀r∈rs,∀v∈r,v.new1 β):QoO β (.sln β z rs) V.lit (.sl z (rs.map (List.map V.lo1))):=fun φ I w y hy=>by
 cases hy with
 | dat d=>exact⟨y,d.new2 h,fun _ _ _=>.dat (.lit _)⟩
theorem QoO.two {β z:Nat}{rs:List (List V)}{e:V}(h:∀r∈rs,∀v∈r,v.new1 β)(he:e.sca=true):QoO β (.tup [.sln β z rs,e]) (fun x=>.tup [.lit x,e]) (.sl z (rs.map (List.map V.lo1))):=fun φ I w y hy=>by
 obtain⟨xs,rfl,hs,hr⟩:=hy.tup_inv
 have h0:0<xs.size:=by rw [hs];simp
 have h1:1<xs.size:=by rw [hs];simp
 have key:∀y,Rep φ I w y (.sln β z rs)->Dat (Pl I w β) w y (.sl z (rs.map (List.map V.lo1))):=fun y d=>by
  cases d with
  | dat d=>exact d.new2 h
 refine⟨xs[0],key _ (hr 0 _ _ (QeA h0) rfl),fun φ' I' w'=>.tup xs _ hs fun j y v hy hv=>?_⟩
 ·match j,hv with
  | 0,hv=>cases hv;rw [QeA h0]at hy;cases hy;exact .dat (.lit _)
  | 1,hv=>cases hv;exact(hr 1 y _ hy rfl).sca he
def Qzb (β:Nat):List V->Prop
 | []=>True
 | v::r=>v.new1 β/\Qzb β r
theorem Qzb.get {β:Nat}:∀{r:List V},Qzb β r->∀v∈r,v.new1 β
 | u::r,h,v,hv=>by
  rcases QaK.1 hv with rfl | hv
  ·exact h.1
  exact h.2.get v hv
theorem QoO.map1 {α:Type}{β z:Nat}{f g:α->List V}{l:List α}(h:∀x,Qzb β (f x))(e:∀x,(f x).map V.lo1=g x):QoO β (.sln β z (l.map f)) V.lit (.sl z (l.map g)):=by
 have:=QoO.one (β:=β) (z:=z) (rs:=l.map f) fun r hr v hv=>by obtain⟨x,_,rfl⟩:=QaE.1 hr;exact(h x).get v hv
 rw [Qmc]at this
 have e2:List.map V.lo1∘f=g:=funext e
 rwa [e2]at this
theorem QCK {α:Type}{f g:α->List V}{l:List α}(e:∀x,(f x).map V.lo1=g x):(l.map f).map (List.map V.lo1)=l.map g:=by
 rw [Qmc]
 have e2:List.map V.lo1∘f=g:=funext e
 rw [e2]
theorem QAu.thaw {f:FuncId}{d:Nat}{g:Bool}{vs us:List V}{rN:Nat->V}{rv:Value->V}{v:V}(hE:Qbb P C o σ f vs)(hd:o.dst=some d)(hn:Nat.ble (d+1) C.n=true)(hpg:C.pg P)(hv:Qls σ.hp g vs us)
  (hc:∀β,Qai β P f us [] (Gives (rN β) [])) (hT:∀β,QoO β (rN β) rv v) (hf:look σ.hp d=none):QAu P C o σ fun x:Value=>(σ.set d (.nst x v)).put d (rv x):=by
 intro a w ⟨φ,hr⟩ next Q hnext
 refine⟨fun _ _=>trivial,?_⟩
 obtain⟨vals,hex,g1,g2⟩:=hE φ a w hr
 rw [Qrs hex,Oper.uponIn_enter]
 refine⟨(fun h=>by cases h),Qo5 ((hc w.heap.size _ _ w _ (Qb2 _) (Ins.of_viewsE hr g1 g2 hv) ((hr.glob hpg).mono fun _ h=>.inl h)).mono ?_)⟩
 rintro e w' ⟨y,v0,hs',φ',rfl,⟨rfl,_⟩,hout⟩
 obtain⟨x,hx,hrv⟩:=hT _ _ _ _ _ hout.rep
 rw [hd]
 have mem:∀k,k∈(List.range w'.heap.size).filter (fun k=>@decide (w.heap.size<=k/\∃cs E,w'.heap[k]? = some (.cells cs E (0,0))) (Classical.propDecidable _))↔k<w'.heap.size/\w.heap.size<=k/\∃cs E,w'.heap[k]? = some (.cells cs E (0,0)):=fun k=>by
  rw [Qnj,Qi1,@decide_eq_true_iff _ (Classical.propDecidable _)]
 generalize (List.range w'.heap.size).filter (fun k=>@decide (w.heap.size<=k/\∃cs E,w'.heap[k]? = some (.cells cs E (0,0))) (Classical.propDecidable _))=L at mem
 cases L with
 | cons b more=>
  have hB:∀k,(⟨b,0,0,more,0⟩:Blk).has k↔k<w'.heap.size/\w.heap.size<=k/\∃cs E,w'.heap[k]? = some (.cells cs E (0,0)):=fun k=>by
   rw [<-mem,QaK];exact Iff.rfl
  exact hnext x _ _ ⟨_,(hr.born (B:=⟨b,0,0,more,0⟩) (ob:=.nst x v) (C.slot hn) hf hout.os hout.tape hout.output hout.size (fun k hk=>hout.kept k hk fun _ _ h=>by simp at h) (fun k hk=>⟨((hB k).1 hk).2.1,((hB k).1 hk).1⟩)
   ⟨hx.mono fun k hk=>⟨(hB k).2 ⟨hk.1.1,hk.2⟩,rfl⟩,fun k hk=>((hB k).1 hk).2.2⟩).put (Qaj hn) (hrv _ _ _)⟩
 | nil=>
  have hnil:∀w2,Dat (fun _=>False) w2 x v:=fun w2=>hx.mono fun k hk=>by have:=(mem k).2 ⟨hk.1.1,hk.2⟩;cases this
  have hr':=hr.called hout
  have hN:=hr'.none_of_look hf
  have hset:RR C φ (σ.set d (.nst x v)) a w':=by
   refine⟨hr'.os,hr'.tape,hr'.output,hr'.size,hr'.kept,hr'.inj,fun o' B' hB'=>?_,hr'.lt,hr'.new,⟨hr'.stay.1,fun o' ob' B1 hge ho' hB1=>hr'.stay.2 o' ob' B1 hge (by have:=C.slot hn;rwa [σ.look_set_other _ (by omega)]at ho') hB1⟩,hr'.tmps,hr'.defers,hr'.frame,fun o' ob' ho'=>?_⟩
   ·by_cases e:o'=d
    ·subst e;exact⟨_,σ.look_set_same _ _⟩
    rw [σ.look_set_other _ (Ne.symm e)];exact hr'.dom o' B' hB'
   by_cases e:o'=d
   ·subst e;rw [σ.look_set_same]at ho';cases ho';exact .inr ⟨hN,hnil⟩
   rw [σ.look_set_other _ (Ne.symm e)]at ho';exact hr'.heap o' ob' ho'
  exact hnext x _ _ ⟨φ,hset.put (Qaj hn) (hrv _ _ _)⟩
def QCh (z:Nat)(D:Nat->Nat->Prop)(y:Value)(n:Nat):Prop:=∃a c,y=.slice a n c/\∀k,k<n->∃b off,a=some ⟨b,off,none⟩/\D b (off+k*z)
def QAv (z q z':Nat)(D:Nat->Nat->Prop)(H:Nat->Nat->Value->Prop)(x:Value)(ls:List Nat):Prop:=
 ∃a c,x=.slice a ls.length c/\∀(i:Nat) n,ls[i]? = some n->∃b off y,a=some ⟨b,off,none⟩/\H b (off+(i*z+q)) y/\QCh z' D y n
theorem RR.setB {φ:Nat->Option Blk}{a:Act}{w:World}(h:RR C φ σ a w){b:Nat}{B:Blk}{ob ob':Ob}(hB:φ b=some B)(hb:look σ.hp b=some ob')(hrep:QbN φ (Imm C φ w) w B ob):RR C φ (σ.set b ob) a w:=by
 refine⟨h.os,h.tape,h.output,h.size,h.kept,h.inj,fun o B hB=>?_,h.lt,h.new,h.stay.set hb,h.tmps,h.defers,h.frame,fun o ob'' ho=>?_⟩
 ·by_cases e:o=b
  ·subst e;exact⟨_,σ.look_set_same _ _⟩
  rw [σ.look_set_other _ (Ne.symm e)];exact h.dom o B hB
 by_cases e:o=b
 ·subst e;rw [σ.look_set_same]at ho;cases ho;exact .inl ⟨B,hB,hrep⟩
 rw [σ.look_set_other _ (Ne.symm e)]at ho;exact h.heap _ _ ho
theorem RR.setN {φ:Nat->Option Blk}{a:Act}{w:World}(h:RR C φ σ a w){b:Nat}{ob ob':Ob}(hB:φ b=none)(hb:look σ.hp b=some ob')(hn:ob.Nil):RR C φ (σ.set b ob) a w:=by
 refine⟨h.os,h.tape,h.output,h.size,h.kept,h.inj,fun o B hB=>?_,h.lt,h.new,h.stay.set hb,h.tmps,h.defers,h.frame,fun o ob'' ho=>?_⟩
 ·by_cases e:o=b
  ·subst e;exact⟨_,σ.look_set_same _ _⟩
  rw [σ.look_set_other _ (Ne.symm e)];exact h.dom o B hB
 by_cases e:o=b
 ·subst e;rw [σ.look_set_same]at ho;cases ho;exact .inr ⟨hB,hn⟩
 rw [σ.look_set_other _ (Ne.symm e)]at ho;exact h.heap _ _ ho
theorem QxE {w:World}{b i:Nat}{cs:Array Value}{E:TypeId}{y:Value}(h:w.heap[b]? = some (.cells cs E (0,0)))(hc:w.cell? ⟨b,i,none⟩=some y):cs[i]? = some y:=by
 simpa [World.cell?,h] using hc
theorem Stp.lenLit {T d e z by_ n c:Nat}{x:Operand}{a:Option Addr}(ho:o.op=.call { callee:=.builtin .len,args:=#[x],argTypes:=#[T] })(hd:o.dst=some d)(hn:Nat.ble (d+1) C.n=true)(hx:σ.opd x=some (.lit (.slice a n c)))(hT:Qav P T=some (e,z,by_)):
  Stp P C o σ (σ.put d (.i .i64 n)):=by
 refine Stp.same hd hn fun φ a w hr=>?_
 obtain⟨hu,_⟩:=Qcu hT
 refine⟨.int .i64 n,?_,.dat (.i _ _)⟩
 simp [execOp,ho,(hr.opd hx).lit_inv,resolve,invoke,builtin,Builtin.len_,run_underlying hu,goInt]
theorem Stp.idxLit {T d e z by_ b off n c:Nat}{x y:Operand}{k:IntKind}{j:Int}(ho:o.op=.indexAddr T x y)(hd:o.dst=some d)(hn:Nat.ble (d+1) C.n=true)(hx:σ.opd x=some (.lit (.slice (some ⟨b,off,none⟩) n c)))(hy:σ.opd y=some (.i k j))
  (hT:Qav P T=some (e,z,by_)) (h0:0<=j) (h1:j<n):Stp P C o σ (σ.put d (.lit (.pointer (some ⟨b,off+j.toNat*z,none⟩)))):=by
 refine Stp.same hd hn fun φ a w hr=>?_
 refine⟨_,?_,.dat (.lit _)⟩
 simp only [execOp,ho,(hr.opd hx).lit_inv,(hr.opd hy).i_inv,Sem.run_bind,Qmf hT h0 h1,Result.andThen_ok,Sem.run_pure,Addr.add_lit]
theorem Stp.fieldLit {T f d b off k:Nat}{x:Operand}(ho:o.op=.fieldAddr T x f)(hd:o.dst=some d)(hn:Nat.ble (d+1) C.n=true)(hx:σ.opd x=some (.lit (.pointer (some ⟨b,off,none⟩))))(hf:QjK P T f=some k):
  Stp P C o σ (σ.put d (.lit (.pointer (some ⟨b,off+k,none⟩)))):=by
 refine Stp.same hd hn fun φ a w hr=>?_
 refine⟨_,?_,.dat (.lit _)⟩
 simp only [execOp,ho,(hr.opd hx).lit_inv,Sem.run_bind,Qq7 hf,Result.andThen_ok,Sem.run_pure,Addr.add_lit]
theorem Stp.loadScr {T d p b off:Nat}{x:Operand}{y:Value}{D:Nat->Nat->Prop}{H:Nat->Nat->Value->Prop}(ho:o.op=.load T x)(hd:o.dst=some d)(hn:Nat.ble (d+1) C.n=true)(hx:σ.opd x=some (.lit (.pointer (some ⟨b,off,none⟩))))
  (hg:Qgp P T=some false) (hb:look σ.hp p=some (.scr D H)) (h:H b off y):Stp P C o σ (σ.put d (.lit y)):=by
 refine Stp.same hd hn fun φ a w hr=>?_
 refine⟨y,?_,.dat (.lit _)⟩
 have hc:w.cell? ⟨b,off,none⟩=some y:=by
  rcases hr.heap p _ hb with⟨B,_,hs⟩|⟨_,hn⟩
  ·exact(hs.2 b off y h).2.2
  exact absurd h (hn.2 _ _ _)
 simp only [execOp,ho,(hr.opd hx).lit_inv,Sem.run_bind,QiH hg hc,Result.andThen_ok,Sem.run_pure]
theorem Stp.storeScr {T p b off:Nat}{x y:Operand}{n:Int}{D:Nat->Nat->Prop}{H:Nat->Nat->Value->Prop}(ho:o.op=.store T x y)(hd:o.dst=none)(hx:σ.opd x=some (.lit (.pointer (some ⟨b,off,none⟩))))(hy:σ.opd y=some (.i .i64 n))
  (hs:QgC P T=some 1) (hb:look σ.hp p=some (.scr D H)) (h:D b off):Stp P C o σ (σ.set p (.scr D H)):=by
 refine Stp.skp fun φ a w hr=>?_
 rcases hr.heap p _ hb with⟨B,hB,hsc⟩|⟨_,hn⟩
 ·obtain⟨hBb,cs,E,m,e1,e2⟩:=hsc.1 b off h
  have hlt:off<cs.size:=(Qhr.1 e2).1
  have hv:a.eval y=.int .i64 n:=(hr.opd hy).i_inv
  have hrun:=Qq6 (P:=P) (T:=T) (n:=1) (g:=b) (off:=off) (w:=w) (x:=.int .i64 n) hs (by rfl) e1 (by omega) (fun u hu=>by
   have:u=.int .i64 n:=by simpa [Value.cells] using hu
   subst this;rfl)
  generalize hrow:((cs.toList.take off++(Value.int .i64 n).cells.toList++cs.toList.drop (off+1)).toArray:Array Value)=row at hrun
  have hsz:row.size=cs.size:=by
   rw [<-hrow];simp [Value.cells];omega
  have hget:∀i,row[i]? = if i=off then some (.int .i64 n)else cs[i]? := fun i=>by
   rw [<-hrow]
   simp only [QiZ,Value.cells]
   by_cases c1:i<off
   ·rw [Qgb,Qbf (by simp;omega),Qbx,if_pos c1,if_neg (by omega)];simp
   by_cases c2:i=off
   ·subst c2
    rw [if_pos rfl,Qbf (by simp;omega),Qcf (by simp;omega)]
    have:i-min i cs.size=0:=by omega
    simp [this]
   rw [if_neg c2,Qcf (by simp;omega)]
   simp only [QgA,Qb0,QdI,Qxq]
   simp
   congr 1
   omega
  have hsr:=setRow_heap w b cs row E _ e1
  refine⟨w.setRow b row,φ,?_,?_⟩
  ·simp only [execOp,ho,(hr.opd hx).lit_inv,hv,Sem.run_bind,hrun,Result.andThen_ok,Sem.run_pure]
  rw [hd]
  have hother:∀k,k≠b->(w.setRow b row).heap[k]? = w.heap[k]? := fun k hk=>setRow_other w b k _ hk
  have:=hr.change hB (B':=B) ⟨rfl,rfl,rfl,rfl⟩ (fun _=>rfl) (ob:=.scr D H) (w':=w.setRow b row) rfl rfl rfl (by simp) (fun k _ hne=>hother k fun e=>hne (e▸hBb)) (fun k hk=>⟨by simpa using (hr.lt p B k hB hk).1,.inl hk⟩)
   ⟨fun b' i' h'=>?_,fun b' i' y' h'=>?_⟩
  ·rwa [QvB hB]at this
  ·obtain⟨g1,cs',E',m',g2,g3⟩:=hsc.1 b' i' h'
   refine⟨g1,?_⟩
   by_cases e:b'=b
   ·subst e
    rw [e1]at g2;cases g2
    refine⟨row,E,if i'=off then n else m',hsr,?_⟩
    rw [hget]
    split
    ·rfl
    exact g3
   exact⟨cs',E',m',(hother b' e).trans g2,g3⟩
  obtain⟨g1,g2,g3⟩:=hsc.2 b' i' y' h'
  refine⟨g1,g2,?_⟩
  by_cases e:b'=b
  ·subst e
   have:=QxE e1 g3
   have hne:i'≠off:=fun e=>g2 (e▸h)
   have h5:=hget i'
   rw [if_neg hne,this]at h5
   simp [World.cell?,hsr,h5]
  exact(World.cell?_of_block (hother b' e)).trans g3
 exact absurd h (hn.1 _ _)
end
end Go.Vm
namespace Go.Vm
open Go Go.RowKit
section
variable {P:Program}{C:Ctx}{σ:St}{o:Oper}{A:Nat->Nat}
theorem RR.grow {φ:Nat->Option Blk}{a:Act}{w:World}(hr:RR C φ σ a w){b z T:Nat}{rs:List (List V)}{cs:List V}{ys:Array Value}(hb:look σ.hp b=some (.tbl A z rs))(hlt:b<616)(hz:cs.length=z)(h1:∀v∈cs,v.one=true)
  (hs:ys.size=z) (hc:∀(j:Nat) x v,ys[j]? = some x->cs[j]? = some v->Dat (Imm C φ w) w x v):
  ∃φ',RR C φ' ((σ.kill b).set b (.tbl (fun i=>if i=rs.length then w.heap.size else A i) z (rs++[cs]))) a (w.alloc (.cells ys T)):=by
 generalize hA':(fun i=>if i=rs.length then w.heap.size else A i)=A'
 have hnew:A' rs.length=w.heap.size:=by rw [<-hA'];simp
 have hold:∀i,i<rs.length->A' i=A i:=fun i hi=>by rw [<-hA'];simp [Nat.ne_of_lt hi]
 have hrng:(List.range (rs++[cs]).length).map A'=(List.range rs.length).map A++[w.heap.size]:=by
  rw [Qb0,QeP,Qln,List.range_succ,List.map_append,Qgc,List.map_nil,hnew]
  congr 1
  exact List.map_congr_left fun i hi=>hold i (Qi1.1 hi)
 have hok:(∀r∈rs,Qfv z r)->∀r∈rs++[cs],Qfv z r:=fun h r hr=>by
  rcases QcH.1 hr with hr | hr
  ·exact h r hr
  rw [Qnk.1 hr];exact⟨hz,h1⟩
 have row:∀{I:Nat->Prop},(∀k,Imm C φ w k->I k)->∃cs2 E,(w.alloc (.cells ys T)).heap[w.heap.size]? = some (.cells cs2 E (0,0))/\cs2.size=z/\∀(j:Nat) v,cs[j]? = some v->∃x,cs2[j]? = some x/\Dat I (w.alloc (.cells ys T)) x v:=fun {I} hI=>by
  refine⟨ys,T,heap_alloc_new w _,hs,fun j v hv=>?_⟩
  have hj:j<ys.size:=by rw [hs,<-hz];exact(QT.1 hv).1
  exact⟨ys[j],QeA hj,(hc j _ v (QeA hj) hv).mono fun k hk=>⟨hI k hk,Below.heap_alloc w _ k hk.1⟩⟩
 rcases hr.heap b _ hb with⟨B,hB,hrep⟩|⟨hn,h⟩
 ·let B':Blk:=⟨B.b,B.cap,B.z,B.more++[w.heap.size],B.off⟩
  have hhas:∀k,B'.has k↔B.has k\/k=w.heap.size:=fun k=>by simp [Blk.has,B',or_assoc]
  have hI0:∀k,Imm C φ w k->Imm C (ext φ b B') (w.alloc (.cells ys T)) k:=fun k hk=>⟨by have:=hk.1;simp;omega,hk.2.1,fun o B1 h1=>by
   by_cases e:o=b
   ·subst e;rw [Q8]at h1;cases h1
    rw [hhas];rintro (h2 | h2)
    ·exact hk.2.2 _ B hB h2
    have:=hk.1;omega
   rw [QS _ e]at h1;exact hk.2.2 o B1 h1⟩
  have:=hr.change hB (B':=B') ⟨rfl,rfl,rfl,rfl⟩ (fun h=>absurd hlt (by omega)) (ob:=.tbl A' z (rs++[cs])) (w':=w.alloc (.cells ys T)) rfl rfl rfl (by simp) (fun k hk _=>Below.heap_alloc w _ k hk)
   (fun k hk=>by
    rcases(hhas k).1 hk with h2 | h2
    ·exact⟨by have:=(hr.lt b B k hB h2).1;simp;omega,.inl h2⟩
    ·exact⟨by simp;omega,.inr (by omega)⟩) (by
    refine⟨by rw [hrng,<-hrep.1];rfl,?_,hok hrep.2.2.1,fun i q hi=>?_⟩
    ·show((B.b::B.more)++[w.heap.size]).Nodup
     rw [List.nodup_append]
     refine⟨hrep.2.1,by simp,fun x hx y hy=>?_⟩
     rw [Qnk.1 hy]
     have:=(hr.lt b B x hB (by unfold Blk.has;exact QaK.1 hx)).1
     omega
    rcases QeR i rs.length with hlt' | hge
    ·rw [Qbf hlt']at hi
     obtain⟨cs2,E,g1,g2,g3⟩:=hrep.2.2.2 i q hi
     have hAi:A i<w.heap.size:=(hr.lt b B _ hB ((hrep.has _).2 ⟨i,hlt',rfl⟩)).1
     exact⟨cs2,E,by rw [hold i hlt',Below.heap_alloc w _ _ hAi];exact g1,g2,fun j u hu=>let ⟨x',hx',hD⟩:=g3 j u hu;⟨x',hx',hD.mono fun k hk=>⟨hI0 k hk,Below.heap_alloc w _ k hk.1⟩⟩⟩
    have hi0:i=rs.length:=by have:=(QT.1 hi).1;simp at this;omega
    subst hi0
    rw [Qcf (Qb2 _),Nat.sub_self]at hi
    simp at hi;subst hi
    rw [hnew];exact row hI0)
  have h2:=this.reset b (.tbl A' z (rs++[cs])) ⟨_,St.look_set_same _ _ _⟩ (.inl ⟨B',Q8 _ _ _,this.block (Q8 _ _ _) (St.look_set_same _ _ _)⟩)
  rw [St.set_kill]at h2
  exact⟨_,h2⟩
 replace h:rs=[]:=h
 subst h
 have hk:=hr.kill b
 have hnone:look (σ.kill b).hp b=none:=by
  cases h:look (σ.kill b).hp b with
  | none=>rfl
  | some ob=>exact absurd rfl (QcS _ _ _ h).1
 have hdel:del φ b=φ:=by
  funext k
  by_cases e:k=b
  ·subst e;rw [Qsi,hn]
  rw [Qec e]
 have hI1:=hk.imm_alloc b 0 0 (.cells ys T) (Qsi _ _)
 refine⟨_,hk.alloc (cap:=0) (z:=0) hnone hlt (ob:=.tbl A' z ([]++[cs])) (obj:=.cells ys T) ⟨?_,by simp,hok (by simp),fun i q hi=>?_⟩⟩
 ·rw [hrng];rfl
 have hi0:i=0:=by have:=(QT.1 hi).1;simp at this;omega
 subst hi0
 simp at hi;subst hi
 have:A' 0=w.heap.size:=hnew
 rw [this]
 exact row fun k hk'=>(hI1 k (by rw [hdel];exact hk')).1
end
end Go.Vm
namespace Go.Vm
open Go Go.RowKit Go.Shelf Go.Lib Go.Proofs
noncomputable def QEw (ρ:Ren)(nm:String):Func:={ Body2.n22 ρ with name:=nm }
noncomputable def ovF (ρ:Ren)(nm:String):Func:={ Body2.n29 ρ with name:=nm }
structure QEC (P:Program) (ρ:Ren) (n1 n2:String) (E z by_:Nat) (zv:Value):Prop where
 mixed:P.follows .mixedOrders=true
 f22:P.funcs[ρ.f 22]? = some (QEw ρ n1)
 f29:P.funcs[ρ.f 29]? = some (ovF ρ n2)
 nm:(n2 == "runtime.NumGoroutine")=false
 nx:Extern.findNext (ovF ρ n2)=none
 fd:Extern.find (ovF ρ n2)=some (Extern.SlicesOverlaps.overlaps #[(ρ.t 24),(ρ.t 24)] #[(ρ.t 4)])
 t0:P.underlying (ρ.t 0)=some (TypeDesc.tuple #[])
 t3:P.underlying (ρ.t 3)=some (TypeDesc.int IntKind.i64)
 t4:P.underlying (ρ.t 4)=some (TypeDesc.bool)
 t24:P.underlying (ρ.t 24)=some (TypeDesc.slice E)
 zE:∀w,(Go.sizeOf E).run P w=.ok z w
 iE:(P.info? E).map (fun i=>(i.zero,i.size,i.bytes))=some (some zv,z,by_)
 zc:zv.cells.size=z
 z0:0<z
 small:by_<=32768
variable {P:Program}{ρ:Ren}{n1 n2:String}{E z by_:Nat}{zv:Value}
def Qhw (I:Nat->Prop)(w:World)(z:Nat)(l:List Value)(rs:List (List V)):Prop:=l.length=rs.length*z/\(∀r∈rs,Qfv z r)/\(∀u∈l,u.oneCell'=true)/\∀(i:Nat) r,rs[i]? = some r->∀(j:Nat) v,r[j]? = some v->∃u,l[i*z+j]? = some u/\Dat I w u v
theorem Qhw.append {I:Nat->Prop}{w:World}{l m:List Value}{rs us:List (List V)}(h:Qhw I w z l rs)(k:Qhw I w z m us):Qhw I w z (l++m) (rs++us):=by
 obtain⟨h1,h2,h3,h4⟩:=h
 obtain⟨k1,k2,k3,k4⟩:=k
 obtain⟨g1,g2⟩:=Qno (rest:=[]) (n:=rs.length) rfl h1 h2 k2 k1 h4 k4
 refine⟨by rw [Qb0,Qb0,h1,k1,QcI],g1,fun u hu=>(QcH.1 hu).elim (h3 u) (k3 u),by simpa using g2⟩
theorem Qhw.take {I:Nat->Prop}{w:World}{l:List Value}{rs:List (List V)}(h:Qhw I w z l rs){i:Nat}(hi:i<=rs.length):Qhw I w z (l.take (i*z)) (rs.take i):=by
 obtain⟨h1,h2,h3,h4⟩:=h
 have hle:i*z<=rs.length*z:=Qct z hi
 refine⟨by rw [QdI,QdI,h1,Nat.min_eq_left hle,Nat.min_eq_left hi],fun r hr=>h2 r (QeQ hr),fun u hu=>h3 u (QeQ hu),fun k r hk j v hj=>?_⟩
 rw [Qbx]at hk
 split at hk
 ·rename_i hki
  obtain⟨u,hu,hD⟩:=h4 k r hk j v hj
  have hjz:j<z:=by have:=(QT.1 hj).1;rwa [(h2 r (Qaa hk)).1]at this
  have:(k+1)*z<=i*z:=Qct z hki
  rw [QcI]at this
  exact⟨u,by rw [Qbx,if_pos (by omega)];exact hu,hD⟩
 cases hk
theorem Qhw.drop {I:Nat->Prop}{w:World}{l:List Value}{rs:List (List V)}(h:Qhw I w z l rs){i:Nat}(hi:i<=rs.length):Qhw I w z (l.drop (i*z)) (rs.drop i):=by
 obtain⟨h1,h2,h3,h4⟩:=h
 refine⟨by rw [Qll,Qll,h1,Nat.sub_mul],fun r hr=>h2 r (QoI hr),fun u hu=>h3 u (QoI hu),fun k r hk j v hj=>?_⟩
 rw [QgA]at hk
 obtain⟨u,hu,hD⟩:=h4 _ r hk j v hj
 exact⟨u,by rw [QgA,<-hu];congr 1;rw [QcI];omega,hD⟩
theorem Qhw.mono {I I':Nat->Prop}{w w':World}(hI:∀k,I k->I' k/\w'.heap[k]? = w.heap[k]?){l:List Value}{rs:List (List V)}(h:Qhw I w z l rs):Qhw I' w' z l rs:=
 ⟨h.1,h.2.1,h.2.2.1,fun i r hi j v hj=>let ⟨u,hu,hD⟩:=h.2.2.2 i r hi j v hj;⟨u,hu,hD.mono hI⟩⟩
section
variable {C:Ctx}{σ:St}{o:Oper}
end
section
variable {P:Program}{C:Ctx}{σ:St}{o:Oper}
theorem Stp.appSB {T U d e e' z z' by_ by' b n m:Nat}{x y:Operand}{rs us rs':List (List V)}{zs:List V}(ho:o.op=.call { callee:=.builtin .append,args:=#[x,y],argTypes:=#[T,U] })
  (hd:o.dst=some d) (hn:Nat.ble (d+1) C.n=true) (hx:σ.opd x=some (.own b n)) (hb:look σ.hp b=some (.arr z rs)) (hb1:Nat.ble 616 b=false) (hnl:rs.length=n)
  (hT:Qav P T=some (e,z,by_)) (hU:Qav P U=some (e',z',by')) (hz:QaF P e=some zs) (hzl:zs.length=z) (hz0:z≠0) (hb0:1<=by_) (hsm:decide ((n+us.length)*by_<=140737488355328)=true)
  (hy:σ.opd y=some (.sl z us)) (he:rs++us=rs') (hm:n+us.length=m):Stp P C o σ (σ.app b z d m rs'):=
 Stp.appendB ho hd hn hx hb hb1 hnl hT hU hz hzl hz0 (QbM (Nat.le_mul_of_pos_right _ hb0) (Qap hsm)) (Qap hsm) (fun φ a w hr=>(hr.opd hy).source_sl) he hm
theorem QzR {α β:Type}{us:List α}{y:List β}{n b L:Nat}(h:decide ((n+y.length)*b<=L)=true)(e:us.length=y.length):decide ((n+us.length)*b<=L)=true:=by rw [e];exact h
end
end Go.Vm
namespace Go.Vm
open Go Go.RowKit
def QoZ (β:Nat)(P:Program)(l:Nat)(K:QeS)(us:List V)(hs:List (Nat×Ob))(post:V->List (Nat×Ob)->Prop):Prop:=
 ∀(S:Nat->Prop) (φ:Nat->Option Blk) (w:World) (vals:Array Value),β<=w.heap.size->Ins S φ w vals us hs->QmY P S w->
  RoundIn Fence.wide 0 P l K.fn vals K.assign K.body w fun e w'=>∃x v hs' φ',e=.returned x/\post v hs'/\Outs S φ w φ' w' x v hs'
section
variable {P:Program}{C:Ctx}{φ:Nat->Option Blk}{σ:St}{a:Act}{w:World}{o:Oper}
theorem Stp.yieldB {β:Nat}(hβ:β<=C.w0.heap.size){d b l:Nat}{K:QeS}{cs:List V}{q:Nat}{x:Operand}{ags:Array Operand}{ts:Array TypeId}{M N:List (Nat×Nat)}{dead:List Nat}{hsC outs hsN:List (Nat×Ob)}{vs us:List V}{r r':V}(ho:o.op=.call { callee:=.value x,args:=ags,argTypes:=ts })
  (hx:σ.opd x=some (.clo (.yield l) [] [])) (hlp:look σ.hp b=some (.lp l K cs q)) (hq:q=0) (ha:σ.opsV ags.toList=some vs) (hps:vs.length=K.ps.size) (hd:o.dst=some d) (hn:Nat.ble (d+1) C.n=true) (hpg:C.pg P)
  (hnm:QcL σ M N dead outs=true) (hnd:(M.map Prod.fst).Nodup)
  (hv:Vws σ.hp false false (QeB M) (fun a b=>look M b=some a) (QsB cs K.ps.toList vs) us) (hobs:QiN σ.hp false false (QeB M) (fun a b=>look M b=some a) σ.hp M hsC)
  (hc:QoZ β P l K us hsC (Gives r outs)) (hback:QiN [] false false [] (fun c b=>look N b=some c) outs N hsN) (hr':Vw [] false false [] (fun c b=>look N b=some c) r r'):
  Stp P C o σ ((σ.after dead hsN).put d r'):=by
 intro a w ⟨φ,hr⟩ next Q hnext
 subst hq
 have hN:=Names.of hnm hnd
 refine⟨fun _ _=>trivial,?_⟩
 obtain⟨h1,h2⟩:=hr.opsV _ _ ha
 obtain⟨xs,ys,hev,e1,e2,_,_⟩:=(hr.opd hx).clo_inv
 have e1:xs=#[]:=Qxp e1
 have e2:ys=#[]:=Qxp e2
 subst e1;subst e2
 obtain⟨B,hB,tmps,D,e0,_,hh,hsz,hrep⟩:=hr.lp hlp
 have hl1:(ags.toList.map a.eval).length=vs.length:=by simpa using h1
 obtain⟨s1,s2⟩:=Qyd (φ:=φ) (I:=Imm C φ w) (w:=w) K.ps.toList (ags.toList.map a.eval) vs tmps cs hl1 hsz hrep (fun j x v hx hv=>by
  simp only [Qak,Qas]at hx
  obtain⟨y,hy,rfl⟩:=hx
  exact h2 j y v hy hv)
 have hsize:(ags.map a.eval).size=K.ps.size:=by rw [<-hps,<-hl1];simp
 have hfold:(K.ps.zip (ags.map a.eval)).foldl (fun tmps (t,a)=>tmps.setIfInBounds t a) tmps=(K.ps.toList.zip (ags.toList.map a.eval)).foldl (fun tm p=>tm.setIfInBounds p.1 p.2) tmps:=by
  rw [<-Array.foldl_toList];simp
 have hex:(execOp a.eval o).run P w=.ok (.round l K.fn ((K.ps.toList.zip (ags.toList.map a.eval)).foldl (fun tm p=>tm.setIfInBounds p.1 p.2) tmps).toList.toArray K.assign K.body) w:=by
  simp only [execOp,ho,resolve,Sem.run_bind,hev,Deferred.ofValue,Sem.run_pure,Result.andThen_ok,invoke,Array.empty_append]
  rw [run_yield hh hsize,hfold]
 rw [Oper.semAt_eq _ _ _ (by rw [ho];intro c hc;cases hc),hex,Oper.uponIn_round]
 refine⟨(fun h=>by cases h),QBd ((hc _ _ w _ (QbM hβ hr.size) (Ins.of_vals hr (by simpa using s1) (fun j x v hx hv=>s2 j x v (by simpa using hx) hv) hN.injM hN.param hv hobs) ((hr.glob hpg).mono fun _ h=>.inl h)).mono ?_)⟩
 rintro e w' ⟨x,v,hs',φ',rfl,⟨rfl,hso⟩,hout⟩
 obtain⟨h3,h4⟩:=hr.after hN hout hso (fun c s h=>by
  obtain⟨ob',e1⟩:=hobs.get.2 c s h
  obtain⟨s',ob,e2,e3,_⟩:=hobs.get.1 c ob' e1
  rw [h]at e2;cases e2;exact⟨ob,e3⟩) hback
 refine hnext _ _ ⟨QjM φ M N dead φ',?_⟩
 rw [hd]
 exact h3.put (Qaj hn) (h4 hr')
theorem QoZ.walk {β b l:Nat}{K:QeS}{us:List V}{hs:List (Nat×Ob)}{post:V->List (Nat×Ob)->Prop}(n:Nat)(hn:us.length=n)(hle:Nat.ble n 616=true)
  (h:∀C:Ctx,Qdb P C n->β<=C.w0.heap.size->AK P C (fun e σ=>e=.normal/\∃cs,look σ.hp b=some (.lp l K cs 0)/\AK P C (QBe b l K post) (.c K.body) [] (σ.set b (.lp l K cs 1))) (.c K.assign) [] ⟨QkR 0 us,hs⟩):QoZ β P l K us hs post:=by
 intro S φ w vals hβ hi hG
 let C:Ctx:=⟨w,S,fun k=>∃o B,φ o=some B/\B.has k,n,φ,QbV hle,some l⟩
 have hF:Fence.wide.inRound l=C.F:=rfl
 have hI:∀k,S k->Imm C φ w k/\w.heap[k]? = w.heap[k]? := fun k hk=>⟨⟨hi.lt k hk,fun _=>hk,fun o B hB e=>((hi.dom o B hB).2.1 k e).2 hk⟩,rfl⟩
 have hR:R C ⟨QkR 0 us,hs⟩ { tmps:=vals,defers:=[] } w:=by
  refine⟨φ,rfl,rfl,rfl,Qb2 _,fun _ _ _=>rfl,hi.inj,fun o B hB=>(hi.dom o B hB).2.2,fun o B k hB hk=>⟨((hi.dom o B hB).2.1 k hk).1,fun _=>⟨o,B,hB,hk⟩⟩,fun o B k hB hk hlt=>absurd (hi.dom o B hB).1 (by omega),⟨fun _ _ _ h=>h,fun _ _ _ _ _ h=>h⟩,
   by show vals.size=n;rw [hi.size,hn],⟨[],rfl,List.nodup_nil,fun _ h=>by cases h⟩,fun t v hv=>?_,fun o ob hob=>?_⟩
  ·obtain⟨_,h2⟩:=QtG us 0 t v hv
   rw [Nat.sub_zero]at h2
   have hlt:t<vals.size:=by rw [hi.size];exact(QT.1 h2).1
   exact⟨vals[t],QeA hlt,(hi.args t _ v (QeA hlt) h2).mono (fun _ _ h=>h) hI⟩
  rcases hi.heap o ob hob with⟨B,hB,hr⟩|hn
  ·exact .inl ⟨B,hB,hr.mono (fun _ _ h=>h) hI fun _ _=>rfl⟩
  exact .inr hn
 refine roundIn_of_wpIn trivial ?_
 rw [hF]
 refine wpIn_mono (h C ⟨rfl,hG,fun g hg ⟨o,B,hB,hb⟩=>((hi.dom o B hB).2.1 g hb).2 (hG g hg).1⟩ hβ _ _ hR) ?_
 rintro e a1 w1 ⟨σ1,⟨rfl,cs,hlp,hbody⟩,φ1,hr1⟩
 obtain⟨r,g1,g2,g3,g4⟩:=hr1.lpSet (q':=1) hlp
 refine⟨_,run_beginRound g1 g2,?_⟩
 have hbusy:({ r with state:=LoopState.busy }:Loop)={ r with state:=lst 1,pending:=jmp 1 }:=by
  rw [show jmp 1=r.pending from g3.symm];rfl
 rw [hbusy]
 refine wpIn_mono (hbody _ _ ⟨φ1,g4⟩) ?_
 rintro e a2 w2 ⟨σ2,hq,φ2,hr2⟩
 have fin:∀(jump:Option Code) (q:Nat) (cs2:List V),look σ2.hp b=some (.lp l K cs2 1)->jmp q=jump->(if jump.isNone then LoopState.ready else LoopState.done)=lst q->post (.b jump.isNone) ((b,.lp l K cs2 q)::σ2.hp)->
   ∃v w',(Instr.endRound l jump).run P w2=.ok v w'/\∃x v' hs' φ',Ending.returned v=.returned x/\post v' hs'/\Outs S φ w φ' w' x v' hs':=fun jump q cs2 hl2 hj hst hp=>by
  obtain⟨r2,k1,_,_,k4⟩:=hr2.lpSet (q':=q) hl2
  refine⟨_,_,run_endRound jump k1,.bool jump.isNone,.b jump.isNone,_,φ2,rfl,hp,?_⟩
  rw [hst,<-hj]
  exact⟨k4.os,k4.tape,k4.output,k4.size,fun k hk hne=>k4.kept k hk (fun ⟨o,B,hB,e⟩=>hne o B hB e),k4.inj,k4.dom,
   fun o B k hB hk=>⟨(k4.lt o B k hB hk).1,fun hlt=>(k4.lt o B k hB hk).2 hlt⟩,k4.new,k4.stay,.dat (.b _),k4.heap⟩
 cases e with
 | normal=>obtain⟨cs2,hl2,hp⟩:=hq;exact fin none 0 cs2 hl2 rfl rfl hp
 | ret=>obtain⟨cs2,hl2,hp⟩:=hq;exact fin (some .ret) 2 cs2 hl2 rfl rfl hp
 | exit k=>obtain⟨cs2,hl2,hp⟩:=hq;exact fin (some (.exit k)) (k+3) cs2 hl2 rfl rfl hp
 | _=>exact hq.elim
def QDs (β:Nat)(P:Program)(σ:St)(f:Nat)(vs:List V)(M N:List (Nat×Nat))(dead:List Nat)(ms:List Qel)(outs:List (Nat×Ob))(r:V):Option (St×Prop):=
 bif QcL σ M N dead outs&&QeY (M.map Prod.fst)&&QeY (N.map Prod.fst)then match Qke (bkM M) ms vs with
  | some us=>match Qgq (bkM M) (look σ.hp) M with
   | some hsC=>match Qgq (bkM N) (look outs) N with
    | some hsN=>some (σ.after dead hsN,Qai β P f us hsC (Gives r outs))
    | none=>none
   | none=>none
  | none=>none
 else none
theorem AK.rangeFB {β:Nat}(hβ:β<=C.w0.heap.size){Q:Exit->St->Prop}{ks:List Fr}{g:Operand}{ps:Array Tmp}{assign body:Code}{f n:Nat}{fs cps:List V}(b:Nat)(ts:List Nat)(M N:List (Nat×Nat))(dead:List Nat)(ms:List Qel)(K:Nat->QeS)(hCn:Qdb P C n)(hrnd:C.rnd=none)(hK:∀fn,K fn=⟨fn,ps,assign,body⟩)
  (hg:σ.opd g=some (.clo (.func f) fs cps)) (he:Qq8 P f=true) (hb:look σ.hp b=none) (hb2:Nat.ble 616 b=false)
  (H:∀l fn,∃outs r σ2 φ2 cs2 q,QDs β P (σ.set b (.lp l (K fn) (snap ts σ.fr n) 0)) f (fs++(.clo (.yield l) [] []::cps)) M N dead ms outs r=some (σ2,φ2)/\φ2/\look σ2.hp b=some (.lp l (K fn) cs2 q)/\q≠1/\
   atJ (AK P C Q (.x .normal) ks (σ2.kill b)) (fun c=>AK P C Q (.c c) ks (σ2.kill b)) (jmp q)):AK P C Q (.c (.rangeFunc g ps assign body)) ks σ:=by
 obtain rfl:K=fun fn=>⟨fn,ps,assign,body⟩:=funext hK
 have hpg:=hCn.g
 replace hCn:=hCn.n
 subst hCn
 intro a w ⟨φ,hr⟩
 refine wpIn_rangeFunc fun fn _=>?_
 obtain⟨outs,r,σ2,φ2,cs2,q,e,hφ2,hq,hq1,hk⟩:=H (w.heap.size+1) fn
 obtain⟨xs,ys,hev,e1,e2,e3,e4⟩:=(hr.opd hg).clo_inv
 have hb3:b<616:=Qfg (by rw [hb2];rfl)
 refine⟨w.heap.size+1,[{ target:=.collected w.heap.size,args:=#[] }],(w.alloc (.deferred (some []))).alloc (.loop { state:=.ready,pending:=none,fn,tmps:=a.tmps,params:=ps,assign,body,defers:=w.heap.size }),{ target:=.fn (.func f) ys,args:=xs++#[.func (.yield (w.heap.size+1)) #[] #[]] },(w.alloc (.deferred (some []))).alloc (.loop { state:=.ready,pending:=none,fn,tmps:=a.tmps,params:=ps,assign,body,defers:=w.heap.size }),f,(xs++#[.func (.yield (w.heap.size+1)) #[] #[]])++ys,(w.alloc (.deferred (some []))).alloc (.loop { state:=.ready,pending:=none,fn,tmps:=a.tmps,params:=ps,assign,body,defers:=w.heap.size }),?_,?_,fun _ _=>trivial,?_,(fun h=>by cases h),?_⟩
 ·rw [show C.F.round=none from hrnd];exact run_enterLoop_outer _ _ _ _ _
 ·have hy:a.eval (.const (.func (.yield (w.heap.size+1)) #[] #[]))=.func (.yield (w.heap.size+1)) #[] #[]:=rfl
  simp only [resolve,hev,Deferred.ofValue,Sem.run_pure,List.map_toArray,Qgc,List.map_nil,hy]
 ·exact Qhs he
 have hm:=hr.mark
 have hN0:=hm.none_of_look hb
 have hsz:(w.alloc (.deferred (some []))).heap.size=w.heap.size+1:=by simp
 have hR1:=hm.alloc (cap:=0) (z:=0) hb hb3 (ob:=.lp (w.heap.size+1) ⟨fn,ps,assign,body⟩ (snap ts σ.fr C.n) 0)
  (obj:=.loop { state:=.ready,pending:=none,fn,tmps:=a.tmps,params:=ps,assign,body,defers:=w.heap.size })
  ⟨a.tmps,w.heap.size,hsz,rfl,by rw [<-hsz];exact World.alloc_heap_new _ _,by rw [hr.tmps];simp [Vm.snap],fun j x v hx hv=>(hm.snap j x v hx hv).mono (hm.mono_ext _ hN0) (hm.imm_alloc b 0 0 _ hN0)⟩
 rw [hsz]at hR1
 generalize hσ1:σ.set b (.lp (w.heap.size+1) ⟨fn,ps,assign,body⟩ (snap ts σ.fr C.n) 0)=σ1 at hR1 e
 generalize hw1:(w.alloc (.deferred (some []))).alloc (.loop { state:=.ready,pending:=none,fn,tmps:=a.tmps,params:=ps,assign,body,defers:=w.heap.size })=w1 at hR1 ⊢
 have hval:(xs++#[.func (.yield (w.heap.size+1)) #[] #[]])++ys=(xs.toList++(.func (.yield (w.heap.size+1)) #[] #[]::ys.toList)).toArray:=by apply Array.ext';simp
 rw [hval]
 unfold QDs at e
 replace e:=Qaf e;obtain⟨e0,e⟩:=e
 simp only [QB]at e0
 obtain⟨⟨h1,h2⟩,h3⟩:=e0
 have h2:=Qb4.1 h2
 have h3:=Qb4.1 h3
 have inj:QgW M=true/\QgW N=true:=by
  simp only [QcL,QB]at h1
  exact⟨h1.1.1.1,h1.1.1.2⟩
 have mM:∀a b,bkM M a=some b->look M b=some a:=fun a b h=>Qbc inj.1 (Qe5 h) h2
 have mN:∀a b,bkM N a=some b->look N b=some a:=fun a b h=>Qbc inj.2 (Qe5 h) h3
 have hNm:=Names.of h1 h2
 split at e
 case h_2=>cases e
 rename_i us hus
 split at e
 case h_2=>cases e
 rename_i hsC hC
 split at e
 case h_2=>cases e
 rename_i hsN hNN
 cases e
 have hobs:=Qcv (hp:=σ1.hp) (g:=false) (bad:=QeB M) mM hC
 have hfr1:σ1.fr=σ.fr:=by rw [<-hσ1];rfl
 refine Qo5 ((hφ2 _ _ w1 _ (QbM hβ hR1.size) (Ins.of_vals (g:=false) (vs:=fs++(.clo (.yield (w.heap.size+1)) [] []::cps)) hR1 (by simp [e1,e2]) (fun j x v hx hv=>?_) hNm.injM hNm.param (QgX mM hus) hobs) ((hR1.glob hpg).mono fun _ h=>.inl h)).mono ?_)
 ·have up:=fun {x:Value} {v:V} (h:Rep φ (Imm C φ w) w x v)=>(h.mono (φ':=φ) (I':=Imm C φ (w.alloc (.deferred (some [])))) (w':=w.alloc (.deferred (some []))) (fun _ _ h=>h) fun k hk=>⟨⟨by have:=hk.1;simp;omega,hk.2⟩,Below.heap_alloc w _ k hk.1⟩).mono (hm.mono_ext ⟨w.heap.size+1,0,0,[],0⟩ hN0) (by
   have:=hm.imm_alloc b 0 0 (.loop { state:=.ready,pending:=none,fn,tmps:=a.tmps,params:=ps,assign,body,defers:=w.heap.size }) hN0
   rw [hsz,hw1]at this;exact this)
  by_cases c1:j<fs.length
  ·rw [Qbf (by simpa using (by omega:j<xs.size))]at hx
   rw [Qbf c1]at hv
   exact up (e3 j x v (by simpa using hx) hv)
  rw [Qcf (by simp;omega)]at hx
  rw [Qcf (by omega)]at hv
  simp only [Qxq]at hx
  rw [e1]at hx
  generalize j-fs.length=i at hx hv
  cases i with
  | zero=>
   simp at hx hv;subst hx;subst hv
   exact .clo (.yield _) #[] #[] [] [] rfl rfl (fun j x v h=>by simp at h) (fun j x v h=>by simp at h)
  | succ i=>simp only [Qr8]at hx hv;exact up (e4 i x v (by simpa using hx) hv)
 rintro e w' ⟨x,v,hs',φ',rfl,⟨rfl,hso⟩,hout⟩
 obtain⟨k3,_⟩:=hR1.after hNm hout hso (fun c s h=>by
  obtain⟨ob',e1⟩:=hobs.get.2 c s h
  obtain⟨s',ob,e2,e3,_⟩:=hobs.get.1 c ob' e1
  rw [h]at e2;cases e2;exact⟨ob,e3⟩) (Qcv mN hNN)
 obtain⟨B,hB,tmps,D,f1,f2,f3,f4,f5⟩:=k3.lp hq
 have hst:lst q≠.busy:=by
  match q,hq1 with
  | 0,_=>exact(by intro h;cases h)
  | 1,h=>exact absurd rfl h
  | k+2,_=>exact(by intro h;cases h)
 refine⟨_,_,run_endLoop f3 hst,?_⟩
 have hkill:=k3.killTo hB (w':=w'.putObj (w.heap.size+1) (.loop { state:=.exhausted,pending:=jmp q,fn,tmps,params:=ps,assign,body,defers:=D })) rfl rfl rfl World.putObj_size (fun k hk=>World.putObj_heap_other (by rw [<-f1];exact hk))
 simp only
 cases hj:jmp q with
 | none=>rw [hj]at hk hkill;exact hk _ _ ⟨_,hkill⟩
 | some c=>rw [hj]at hk hkill;exact hk _ _ ⟨_,hkill⟩
end
def yVB (β:Nat)(P:Program)(σ:St)(l d:Nat)(K:QeS)(vs:List V)(M N:List (Nat×Nat))(dead:List Nat)(ms:List Qel)(outs:List (Nat×Ob))(r:V):Option (St×Prop):=
 bif QcL σ M N dead outs&&QeY (M.map Prod.fst)&&QeY (N.map Prod.fst)then match Qke (bkM M) ms vs with
  | some us=>match Qgq (bkM M) (look σ.hp) M with
   | some hsC=>match Qgq (bkM N) (look outs) N with
    | some hsN=>match trV (bkM N) r with
     | some r'=>some ((σ.after dead hsN).put d r',QoZ β P l K us hsC (Gives r outs))
     | none=>none
    | none=>none
   | none=>none
  | none=>none
 else none
section
variable {P:Program}{C:Ctx}{Q:Exit->St->Prop}{σ σ':St}{ks:List Fr}{o:Oper}
theorem Stp.yieldVB {β:Nat}(hβ:β<=C.w0.heap.size){d b l:Nat}{K:QeS}{cs:List V}{q:Nat}{x:Operand}{ags:Array Operand}{ts:Array TypeId}{M N:List (Nat×Nat)}{dead:List Nat}{outs:List (Nat×Ob)}{vs us:List V}{ms:List Qel}{r:V}{φ:Prop}(ho:o.op=.call { callee:=.value x,args:=ags,argTypes:=ts })
  (hx:σ.opd x=some (.clo (.yield l) [] [])) (hlp:look σ.hp b=some (.lp l K cs q)) (hq:q=0) (ha:σ.opsV ags.toList=some vs) (hps:vs.length=K.ps.size) (hd:o.dst=some d) (hn:Nat.ble (d+1) C.n=true) (hpg:C.pg P)
  (hu:QsB cs K.ps.toList vs=us) (e:yVB β P σ l d K us M N dead ms outs r=some (σ',φ)) (hφ:φ):Stp P C o σ σ':=by
 unfold yVB at e
 replace e:=Qaf e;obtain⟨e1,e⟩:=e
 simp only [QB]at e1
 obtain⟨⟨h1,h2⟩,h3⟩:=e1
 have h2:=Qb4.1 h2
 have h3:=Qb4.1 h3
 have inj:QgW M=true/\QgW N=true:=by
  simp only [QcL,QB]at h1
  exact⟨h1.1.1.1,h1.1.1.2⟩
 have mM:∀a b,bkM M a=some b->look M b=some a:=fun a b h=>Qbc inj.1 (Qe5 h) h2
 have mN:∀a b,bkM N a=some b->look N b=some a:=fun a b h=>Qbc inj.2 (Qe5 h) h3
 split at e
 ·rename_i us hus
  split at e
  ·rename_i hsC hC
   split at e
   ·rename_i hsN hN
    split at e
    ·rename_i r' hr
     cases e
     subst hu
     exact Stp.yieldB hβ ho hx hlp hq ha hps hd hn hpg h1 h2 (QgX mM hus) (Qcv mM hC) hφ (Qcv mN hN) (QjN mN hr)
    cases e
   cases e
  cases e
 cases e
end
section
variable {P:Program}{C:Ctx}{Q:Exit->St->Prop}{σ:St}{ks:List Fr}
theorem AK.scribG {d z:Nat}{x:Value}{rs:List (List V)}{pt:Pt}(qs:List (Nat×Nat×List Nat))(hb:look σ.hp d=some (.nst x (.sl z rs)))(hl0:∀p∈qs,p.2.2.length=rs.length)
  (hr0:∀p∈qs,∀(i:Nat) r,rs[i]? = some r->∃us:List (List V),r[p.1]? = some (.sl p.2.1 us)/\p.2.2[i]? = some us.length/\0<p.2.1/\∀u∈us,∃n,u[0]? = some (.i .i64 n))
  (k:∀D H,(∀p∈qs,QAv z p.1 p.2.1 D H x p.2.2)->AK P C Q pt ks (σ.set d (.scr D H))):AK P C Q pt ks σ:=by
 refine AK.weakenE (ι:={ p:(Nat->Nat->Prop)×(Nat->Nat->Value->Prop) // ∀q∈qs,QAv z q.1 q.2.1 p.1 p.2 x q.2.2 }) (f:=fun p=>σ.set d (.scr p.1.1 p.1.2)) (fun a w ⟨φ,h⟩=>?_) fun p=>k _ _ p.2
 rcases h.heap d _ hb with⟨B,hB,hd,hpl⟩|⟨hB,hn⟩
 ·refine⟨⟨(fun b i=>B.has b/\∃cs E n,w.heap[b]? = some (.cells cs E (0,0))/\cs[i]? = some (.int .i64 n),fun b i y=>B.has b/\¬(B.has b/\∃cs E n,w.heap[b]? = some (.cells cs E (0,0))/\cs[i]? = some (.int .i64 n))/\w.cell? ⟨b,i,none⟩=some y),?_⟩,φ,h.setB hB hb ⟨fun b i h=>h,fun b i y h=>h⟩⟩
  rintro ⟨q,z',ls⟩ hm
  have hl:ls.length=rs.length:=hl0 _ hm
  have hr:∀(i:Nat) r,rs[i]? = some r->∃us:List (List V),r[q]? = some (.sl z' us)/\ls[i]? = some us.length/\0<z'/\∀u∈us,∃n,u[0]? = some (.i .i64 n):=hr0 _ hm
  show QAv _ _ _ _ _ _ _
  cases hd with
  | sl0 a cap=>exact⟨a,cap,by rw [show ls.length=0 from hl],fun i n hi=>by rw [Qmb.1 hl]at hi;cases hi⟩
  | sl b off len cap _ _ c hI hlen hc hok hcell hd=>
   refine⟨some ⟨b,off,none⟩,cap,by rw [hl,hlen],fun i n hi=>?_⟩
   have hlt:i<rs.length:=by rw [<-hl];exact(QT.1 hi).1
   have hri:=QG hlt
   obtain⟨us,h1,h2,h3,h4⟩:=hr i _ hri
   rw [hi]at h2
   cases h2
   have hq:q<z:=by rw [<-(hok _ (Qaa hri)).1];exact(QT.1 h1).1
   have hbig:i*z+z<=len*z:=by
    have:(i+1)*z<=len*z:=Qct _ (by omega)
    rw [QcI]at this;omega
   have hcy:=hcell (i*z+q) (by omega)
   have hy:=hd i _ hri q _ h1
   refine⟨b,off,c (i*z+q),rfl,⟨hI,?_,hcy⟩,?_⟩
   ·rintro ⟨_,cs,E,n,e1,e2⟩
    have:=QxE e1 hcy
    rw [e2]at this
    rw [<-Option.some.inj this]at hy
    cases hy
   generalize c (i*z+q)=y at hy
   cases hy with
   | sl0 a cap=>exact⟨a,cap,rfl,fun k hk=>by cases hk⟩
   | sl b2 off2 len2 cap2 _ _ c2 hI2 hlen2 hc2 hok2 hcell2 hd2=>
    refine⟨some ⟨b2,off2,none⟩,cap2,by rw [hlen2],fun k hk=>⟨b2,off2,rfl,hI2,?_⟩⟩
    obtain⟨cs,E,e1⟩:=hpl b2 hI2
    have hu:=QG hk
    obtain⟨m,hm⟩:=h4 _ (Qaa hu)
    have hb3:k*z'+z'<=len2*z':=by
     have:(k+1)*z'<=len2*z':=Qct _ (by omega)
     rw [QcI]at this;omega
    have hv:=hd2 k _ hu 0 _ hm
    have hc4:=QxE e1 (hcell2 (k*z') (by omega))
    rw [Qlq]at hv
    generalize c2 (k*z')=y2 at hv hc4
    cases hv
    exact⟨cs,E,m,e1,hc4⟩
 refine⟨⟨(fun _ _=>False,fun _ _ _=>False),?_⟩,φ,h.setN hB hb ⟨fun _ _ h=>h,fun _ _ _ h=>h⟩⟩
 rintro ⟨q,z',ls⟩ hm
 have hl:ls.length=rs.length:=hl0 _ hm
 have:=hn w
 cases this with
 | sl0 a cap=>exact⟨a,cap,by rw [show ls.length=0 from hl],fun i n hi=>by rw [Qmb.1 hl]at hi;cases hi⟩
 | sl _ _ _ _ _ _ _ hI=>exact hI.elim
theorem Qai.loD {P:Program}{f:FuncId}{us:List V}{hs:List (Nat×Ob)}{z:Nat}{rs rs':List (List V)}(h:Qai 0 P f us hs (Gives (.sl z rs) []))(e:rs.map (List.map V.lo1)=rs'):Qc P f us hs (Gives (.sl z rs') []):=by
 subst e
 exact fun S φ w vals hi hG=>(h S φ w vals (Qnl _) hi hG).mono fun e w' ⟨x,v,hs',φ',h1,⟨h2,_⟩,ho⟩=>by
  subst h2
  refine⟨x,_,hs',φ',h1,⟨rfl,fun c ob h=>by cases h⟩,{ ho with rep:=?_ }⟩
  have:=ho.rep
  cases this with
  | dat d=>exact .dat d.loR
end
end Go.Vm
