/- A part of the proof; what it holds is told at each theorem. -/
import Derived.Test.YtpijolohkdchcaaGreatDoorD1V2
import Derived.Laws.StructEq
import Derived.Laws.Cover3
import Derived.RangeFuncIn
import Derived.Shelf.Sort.Plain
import Derived.Shelf.Slices.In.SortNone
import Derived.Laws.BytesString
import Derived.Shelf.Slices.CompactI
import Derived.Shelf.Strings.Fields
import Derived.Carry
import Derived.ReadAgain
import Derived.OpenShut
import GoSem.ClaimJoined
import Derived.Lib.LaidTab
import Derived.LaidMore
import Derived.MakeChecks
import Derived.Stop.LaidErr
import Derived.Stop.Joined
import Derived.SizedLaws
import Derived.Handed
import Derived.Shelf.Spec.SlicesInsertGrow
set_option linter.unusedVariables false
set_option linter.unusedSimpArgs false
set_option linter.unusedSectionVars false
set_option linter.deprecated false
namespace Go.Vm
open Go Go.RowKit
structure Mut where
 kills:List Nat
 sets:List (Nat×Ob)
 put:Option (Nat×V)
def St.sets (σ:St):List (Nat×Ob)->St
 | []=>σ
 | (o,ob)::r=>(σ.sets r).set o ob
def Mut.run (M:Mut)(σ:St):St:=match M.put with
 | none=>(σ.killL M.kills).sets M.sets
 | some (d,v)=>((σ.killL M.kills).sets M.sets).put d v
def Sub (σ B:St):Prop:=(∀t v,look B.fr t=some v->look σ.fr t=some v)/\∀p ob,look B.hp p=some ob->look σ.hp p=some ob
theorem Qnj {b:Nat}:∀(l:List (Nat×V)) (t:Nat),look (Qim b l) t=(look l t).map (V.kill b):=by
 intro l
 induction l with
 | nil=>intro t;rfl
 | cons p l ih=>
  obtain⟨k,v⟩:=p
  intro t
  by_cases e:k=t
  ·subst e;rw [Qim,Qv,Qv];rfl
  rw [Qim,Qt _ _ e,Qt _ _ e];exact ih t
theorem Qkk {b:Nat}:∀(l:List (Nat×Ob)) (t:Nat),look (Qe7 b l) t=if t=b then none else(look l t).map (Ob.kill b):=by
 intro l t
 by_cases h:t=b
 ·rw [if_pos h]
  cases hl:look (Qe7 b l) t with
  | none=>rfl
  | some ob=>obtain⟨h1,_⟩:=QcI _ _ _ hl;exact absurd h h1
 rw [if_neg h]
 cases hl:look l t with
 | none=>
  cases hk:look (Qe7 b l) t with
  | none=>rfl
  | some ob=>obtain⟨_,ob',h1,_⟩:=QcI _ _ _ hk;rw [hl]at h1;cases h1
 | some ob=>exact QfB _ _ _ h hl
theorem Sub.kill {σ B:St}(h:Sub σ B)(b:Nat):Sub (σ.kill b) (B.kill b):=by
 refine⟨fun t v hv=>?_,fun p ob hob=>?_⟩
 ·have hv:look (Qim b B.fr) t=some v:=hv
  show look (Qim b σ.fr) t=some v
  rw [Qnj]at hv ⊢
  obtain⟨u,hu,rfl⟩:=Qax.1 hv
  rw [h.1 t u hu];rfl
 have hob:look (Qe7 b B.hp) p=some ob:=hob
 show look (Qe7 b σ.hp) p=some ob
 rw [Qkk]at hob ⊢
 split at hob
 ·cases hob
 rename_i hne
 rw [if_neg hne]
 obtain⟨u,hu,rfl⟩:=Qax.1 hob
 rw [h.2 p u hu];rfl
theorem Sub.killL : ∀{l:List Nat} {σ B:St},Sub σ B->Sub (σ.killL l) (B.killL l):=by
 intro l
 induction l with
 | nil=>intro σ B h;exact h
 | cons b l ih=>intro σ B h;exact ih (h.kill b)
theorem Sub.set {σ B:St}(h:Sub σ B)(o:Nat)(ob:Ob):Sub (σ.set o ob) (B.set o ob):=by
 refine⟨h.1,fun p u hu=>?_⟩
 by_cases e:p=o
 ·subst e;rw [St.look_set_same]at hu ⊢;exact hu
 rw [St.look_set_other _ _ (Ne.symm e)]at hu ⊢;exact h.2 p u hu
theorem Sub.sets : ∀{l:List (Nat×Ob)} {σ B:St},Sub σ B->Sub (σ.sets l) (B.sets l):=by
 intro l
 induction l with
 | nil=>intro σ B h;exact h
 | cons p l ih=>intro σ B h;exact(ih h).set p.1 p.2
theorem Sub.put {σ B:St}(h:Sub σ B)(d:Nat)(v:V):Sub (σ.put d v) (B.put d v):=by
 refine⟨fun t u hu=>?_,h.2⟩
 have hu:look ((d,v)::B.fr) t=some u:=hu
 show look ((d,v)::σ.fr) t=some u
 by_cases e:d=t
 ·subst e;rw [Qv]at hu ⊢;exact hu
 rw [Qt _ _ e]at hu ⊢;exact h.1 t u hu
theorem Sub.run {σ B:St}(h:Sub σ B)(M:Mut):Sub (M.run σ) (M.run B):=by
 unfold Mut.run
 split
 ·exact h.killL.sets
 exact h.killL.sets.put _ _
def Mut.keeps (M:Mut)(t:Nat)(v:V):Bool:=M.kills.all (fun b=>v.free b)&&(match M.put with | none=>true | some (d,_)=>!(Nat.beq d t))
def Mut.keepsO (M:Mut)(p:Nat):Bool:=M.kills.all (fun b=>!(Nat.beq b p))&&M.sets.all (fun q=>!(Nat.beq q.1 p))
def Ob.keep1 (b:Nat):Ob->Bool
 | .var cs=>cs.all (V.freeC b)
 | .lp _ _ cs _=>cs.all (V.freeC b)
 | _=>true
theorem QAV : ∀{l:List Nat} {σ:St} {t:Nat} {v:V},l.all (fun b=>v.free b)=true->look σ.fr t=some v->look (σ.killL l).fr t=some v:=by
 intro l
 induction l with
 | nil=>intro σ t v _ h;exact h
 | cons b l ih=>
  intro σ t v hl h
  rw [Qnz,QB]at hl
  refine ih hl.2 ?_
  show look (Qim b σ.fr) t=some v
  rw [Qnj,h,Qgr,V.kill,hl.1];rfl
theorem QxS : ∀{l:List (Nat×Ob)} {σ:St},(σ.sets l).fr=σ.fr:=by
 intro l
 induction l with
 | nil=>intro σ;rfl
 | cons p l ih=>intro σ;exact ih
theorem Mut.keeps_look {M:Mut}{σ:St}{t:Nat}{v:V}(hk:M.keeps t v=true)(h:look σ.fr t=some v):look (M.run σ).fr t=some v:=by
 unfold Mut.keeps at hk
 rw [QB]at hk
 have h1:look ((σ.killL M.kills).sets M.sets).fr t=some v:=by rw [QxS];exact QAV hk.1 h
 unfold Mut.run
 split
 ·exact h1
 rename_i d u hp
 rw [hp]at hk
 have hne:d≠t:=QhH hk.2
 show look ((d,u)::_) t=some v
 rw [Qt _ _ hne];exact h1
theorem QxT : ∀{l:List Nat} {σ:St} {p:Nat},look σ.hp p=none->look (σ.killL l).hp p=none:=by
 intro l
 induction l with
 | nil=>intro σ p h;exact h
 | cons b l ih=>
  intro σ p h
  refine ih ?_
  show look (Qe7 b σ.hp) p=none
  rw [Qkk,h];simp
theorem Qzu : ∀{l:List (Nat×Ob)} {σ:St} {p:Nat},l.all (fun q=>!(Nat.beq q.1 p))=true->look σ.hp p=none->look (σ.sets l).hp p=none:=by
 intro l
 induction l with
 | nil=>intro σ p _ h;exact h
 | cons q l ih=>
  intro σ p hl h
  rw [Qnz,QB]at hl
  show look ((σ.sets l).set q.1 q.2).hp p=none
  rw [St.look_set_other _ _ (QhH hl.1)];exact ih hl.2 h
theorem Mut.none_look {M:Mut}{σ:St}{p:Nat}(hk:M.sets.all (fun q=>!(Nat.beq q.1 p))=true)(h:look σ.hp p=none):look (M.run σ).hp p=none:=by
 have h1:look ((σ.killL M.kills).sets M.sets).hp p=none:=Qzu hk (QxT h)
 unfold Mut.run
 split<;>exact h1
theorem Ob.kill_keep {ob:Ob}{b:Nat}(h:ob.keep1 b=true):ob.kill b=ob:=by
 cases ob with
 | var cs=>
  simp only [Ob.keep1,Q9]at h
  simp only [Ob.kill,Ob.var.injEq]
  conv=>rhs;rw [<-List.map_id cs]
  apply List.map_congr_left
  intro v hv
  simp only [V.killC,h v hv,cond_true,id]
 | lp l K cs q=>
  simp only [Ob.keep1,Q9]at h
  simp only [Ob.kill,Ob.lp.injEq,true_and,and_true]
  conv=>rhs;rw [<-List.map_id cs]
  apply List.map_congr_left
  intro v hv
  simp only [V.killC,h v hv,cond_true,id]
 | _=>rfl
theorem QyP : ∀{l:List Nat} {σ:St} {p:Nat} {ob:Ob},l.all (fun b=>!(Nat.beq b p))=true->l.all (fun b=>ob.keep1 b)=true->look σ.hp p=some ob->look (σ.killL l).hp p=some ob:=by
 intro l
 induction l with
 | nil=>intro σ p ob _ _ h;exact h
 | cons b l ih=>
  intro σ p ob hl hp h
  rw [Qnz,QB]at hl hp
  refine ih hl.2 hp.2 ?_
  show look (Qe7 b σ.hp) p=some ob
  rw [Qkk,if_neg (QhH hl.1).symm,h,Qgr,Ob.kill_keep hp.1]
theorem Qzv : ∀{l:List (Nat×Ob)} {σ:St} {p:Nat} {ob:Ob},l.all (fun q=>!(Nat.beq q.1 p))=true->look σ.hp p=some ob->look (σ.sets l).hp p=some ob:=by
 intro l
 induction l with
 | nil=>intro σ p ob _ h;exact h
 | cons q l ih=>
  intro σ p ob hl h
  rw [Qnz,QB]at hl
  show look ((σ.sets l).set q.1 q.2).hp p=some ob
  rw [St.look_set_other _ _ (QhH hl.1)];exact ih hl.2 h
theorem Mut.keepsO_look {M:Mut}{σ:St}{p:Nat}{ob:Ob}(hk:M.keepsO p=true)(hp:M.kills.all (fun b=>ob.keep1 b)=true)(h:look σ.hp p=some ob):look (M.run σ).hp p=some ob:=by
 unfold Mut.keepsO at hk
 rw [QB]at hk
 have h1:look ((σ.killL M.kills).sets M.sets).hp p=some ob:=Qzv hk.2 (QyP hk.1 hp h)
 unfold Mut.run
 split<;>exact h1
section
variable {P:Program}{C:Ctx}{Q:Exit->St->Prop}{ops:Array Oper}{σ:St}{ks:List Fr}
theorem QBH (Inv:Array Bool->St->Prop)
  (step:∀listed σ i o,listed.size=ops.size->Qt3 ops listed->i∈Region.ready .any ops listed->ops[i]? = some o->Inv listed σ->∃σ',QbI P C ops o σ σ'/\Inv (listed.setIfInBounds i true) σ')
  (hord:QxO ops=true) (hend:∀listed σ,listed.size=ops.size->(∀i,i<ops.size->listed[i]? = some true)->Inv listed σ->∀a w,R C σ a w->up C Q .normal a w):
  ∀(fuel:Nat) (listed:Array Bool) (a:Act) (w:World) (σ:St),((List.range ops.size).filter fun i=>!(listed[i]? == some true)).length<=fuel->listed.size=ops.size->Qt3 ops listed->Inv listed σ->R C σ a w->wpAnyIn C.F 0 P .any ops (up C Q) fuel listed a w:=by
 intro fuel
 have allOf:∀{listed:Array Bool},listed.size=ops.size->Region.ready .any ops listed=[]->∀i,i<ops.size->listed[i]? = some true:=by
  intro listed hs hr
  apply Classical.byContradiction
  intro h
  have hex:∃i,i<ops.size/\listed[i]? ≠ some true:=by
   apply Classical.byContradiction
   intro h'
   exact h fun i hi=>Classical.byContradiction fun hn=>h' ⟨i,hi,hn⟩
  obtain⟨k,h1,h2,h3⟩:=Qzh ops.size hex
  have:=QAc hord hs h1 h2 h3
  rw [hr]at this;cases this
 induction fuel with
 | zero=>
  intro listed a w σ hf hs hd hI hR
  have hall:∀i,i<ops.size->listed[i]? = some true:=fun i hi=>by
   have:=Qmh.1 (Nat.le_zero.1 hf)
   rw [List.filter_eq_nil_iff]at this
   simpa using this i (QiW.2 hi)
  refine⟨?_,hend listed σ hs hall hI a w hR⟩
  rw [List.eq_nil_iff_forall_not_mem]
  intro i hi
  obtain⟨o,ho,hl,_⟩:=(Ql7 hs).1 hi
  rw [hall i (Qhe.1 ho).1]at hl;cases hl
 | succ fuel ih=>
  intro listed a w σ hf hs hd hI hR
  refine⟨fun hr=>hend listed σ hs (allOf hs hr) hI a w hR,fun i hi=>?_⟩
  obtain⟨o,ho,hl,hdeps⟩:=(Ql7 hs).1 hi
  obtain⟨σ',hos,hI'⟩:=step listed σ i o hs hd hi ho hI
  have hin:i<listed.size:=by rw [hs];exact(Qhe.1 ho).1
  have next:∀a' w',R C σ' a' w'->wpAnyIn C.F 0 P .any ops (up C Q) fuel (listed.setIfInBounds i true) a' w':=fun a' w' hR'=>by
   refine ih _ a' w' σ' ?_ (by simpa using hs) (hd.set hs hi) hI' hR'
   have count:∀(l:List Nat),i∈l->(l.filter fun j=>!((listed.setIfInBounds i true)[j]? == some true)).length+1<=(l.filter fun j=>!(listed[j]? == some true)).length:=by
    intro l
    have le:∀(l:List Nat),(l.filter fun j=>!((listed.setIfInBounds i true)[j]? == some true)).length<=(l.filter fun j=>!(listed[j]? == some true)).length:=by
     intro l
     induction l with
     | nil=>simp
     | cons x l ihl=>
      by_cases e:i=x
      ·subst e
       rw [List.filter_cons_of_neg (by simp [Qrt,hin]),List.filter_cons_of_pos (by rw [hl];simp)]
       simp;omega
      simp only [QnA,Qze e]
      split
      ·simpa using ihl
      exact ihl
    induction l with
    | nil=>intro h;cases h
    | cons x l ihl=>
     intro hm
     by_cases e:i=x
     ·subst e
      rw [List.filter_cons_of_neg (by simp [Qrt,hin]),List.filter_cons_of_pos (by rw [hl];simp)]
      have:=le l
      simp;omega
     have hm':i∈l:=by
      rcases Qbb.1 hm with h | h
      ·exact absurd h e
      exact h
     have:=ihl hm'
     simp only [QnA,Qze e]
     split
     ·simpa using this
     exact this
   have:=count (List.range ops.size) (QiW.2 (by rw [<-hs];exact hin))
   omega
  unfold wpOpIn
  simp only [ho]
  have:=hos a w hR (wpAnyIn C.F 0 P .any ops (up C Q) fuel (listed.setIfInBounds i true)) (up C Q) next
  split
  ·rename_i hw;rw [if_pos hw]at this;exact this
  rename_i hw;rw [if_neg hw]at this;exact⟨fun _ _=>trivial,this⟩
theorem AK.regionInv {id:Nat}(Inv:Array Bool->St->Prop)(hmix:P.follows .mixedOrders=true)
  (step:∀listed σ i o,listed.size=ops.size->Qt3 ops listed->i∈Region.ready .any ops listed->ops[i]? = some o->Inv listed σ->∃σ',QbI P C ops o σ σ'/\Inv (listed.setIfInBounds i true) σ')
  (hord:QxO ops=true) (h0:Inv (Array.replicate ops.size false) σ) (hend:∀listed σ',listed.size=ops.size->(∀i,i<ops.size->listed[i]? = some true)->Inv listed σ'->AK P C Q (.x .normal) ks σ'):AK P C Q (.c (.region id ops true)) ks σ:=by
 intro a w hR
 refine wpIn_region_any hmix ?_
 have hR':R C σ a { w with drawn:=w.drawn+1 }:=by
  obtain⟨φ,hr⟩:=hR
  exact⟨φ,hr.step rfl rfl rfl (Qc2 _) (fun _ _=>rfl)⟩
 refine QBH Inv step hord (fun listed σ' hs hall hI a w hR=>hend listed σ' hs hall hI a w hR) ops.size (Array.replicate ops.size false) a _ σ ?_ (by simp) ?_ h0 hR'
 ·exact QcA (List.length_filter_le _ _) (by simp)
 intro i o _ h
 simp [Array.getElem?_replicate]at h
end
inductive It where
 | add (x:DF) (fl nf:Bool)
 | tn (M:Mut)
def QS : List It->List Mut
 | []=>[]
 | .add _ _ _::r=>QS r
 | .tn M::r=>M::QS r
def bof (base:St):List Mut->St
 | []=>base
 | M::r=>bof (M.run base) r
def Qza (x:DF)(M:Mut):Bool:=match x.ob with | none=>true | some ob=>M.keepsO x.d&&M.kills.all (fun b=>ob.keep1 b)
def Qzb (x:DF)(M:Mut):Bool:=M.keeps x.d x.v&&Qza x M
def alv (x:DF)(fl:Bool)(ms:List Mut):Bool:=ms.all (fun M=>M.keeps x.d x.v)
def QrA (x:DF)(fl:Bool)(ms:List Mut):Bool:=ms.all (Qza x)
def Qmt (σ:St)(x:DF)(fl:Bool)(ms:List Mut):Prop:=(alv x fl ms=true->look σ.fr x.d=some x.v)/\(QrA x fl ms=true->∀ob,x.ob=some ob->look σ.hp x.d=some ob)
def Qg1 (ops:Array Oper):Nat->Nat->Nat->Bool
 | 0,_,_=>false
 | n+1,i,k=>match ops[k]? with
  | some o=>QkW o i||o.after.toList.any fun e=>Region.binds .any e&&Qg1 ops n i e.on
  | none=>false
def QsJ (its:List It)(p:Nat):Bool:=match its[p]? with
 | some (.tn _)=>true
 | _=>false
def QCH (ops:Array Oper)(its:List It):Bool:=(List.range its.length).all fun i=>(List.range its.length).all fun p=>!(QsJ its p)||Nat.beq p i ||
 (match its[i]? with | some (.add _ true false)=>true | some _=>bif Nat.ble (p+1) i then Qg1 ops 8 p i else Qg1 ops 8 i p | none=>true)
def QpA : List It->List Nat
 | []=>[]
 | .add x _ _::r=>x.d::QpA r
 | .tn _::r=>QpA r
def QjI : List Mut->List Nat
 | []=>[]
 | M::r=>match M.put with
  | some (d,_)=>d::QjI r
  | none=>QjI r
def Qzw : List Mut->List Nat
 | []=>[]
 | M::r=>M.sets.map Prod.fst++Qzw r
def QsK : List It->List Nat
 | []=>[]
 | .add x _ _::r=>match x.ob with
  | some _=>x.d::QsK r
  | none=>QsK r
 | .tn _::r=>QsK r
def QjJ (ms:List Mut):List It->Bool
 | []=>true
 | .add x fl _::r=>(!fl||ms.all (Qzb x))&&QjJ ms r
 | .tn _::r=>QjJ ms r
def Que (ms:List Mut)(S:St):Bool:=S.fr.all (fun p=>ms.all fun M=>M.keeps p.1 p.2)&&S.hp.all (fun p=>ms.all fun M=>M.keepsO p.1&&M.kills.all (fun b=>p.2.keep1 b))
def Qzx (base:St)(its:List It):Bool:=Qhg (QpA its)&&(QpA its).all (fun d=>!(Q6 (keys base.fr) d)&&!(Q6 (QjI (QS its)) d)) &&
 (QsK its).all (fun d=>!(Q6 (keys base.hp) d))
def QAW (ops:Array Oper)(its:List It):Bool:=(List.range its.length).all fun i=>(List.range its.length).all fun p=>match its[i]? with
 | some (.add x _ _)=>match its[p]? with
  | some (.tn M)=>x.ob.isNone||!(Q6 (M.sets.map Prod.fst) x.d)||Qg1 ops 8 i p
  | _=>true
 | _=>true
section
variable {P:Program}{C:Ctx}{Q:Exit->St->Prop}{ops:Array Oper}{ks:List Fr}{base S:St}{its:List It}
def j0 (its:List It)(k:Nat):Nat:=(QS (its.take k)).length
def QrR (P:Program)(C:Ctx)(ops:Array Oper)(base S:St)(its:List It)(i:Nat)(o:Oper):It->Prop
 | .add x fl nf=>match fl&&!nf with
  | false=>∀σ,Sub σ (bof base ((QS its).take (j0 its i)))->(∀k y fl nf,its[k]? = some (.add y fl nf)->QkW o k=true->Qmt σ y fl (((QS its).take (j0 its i)).drop (j0 its k)))->(x.ob.isSome=true->look σ.hp x.d=none)->QbI P C ops o σ (σ.addF x)
  | true=>∀σ,Sub σ S->(∀k y nf,its[k]? = some (.add y true nf)->QkW o k=true->QsA σ y)->(x.ob.isSome=true->look σ.hp x.d=none)->QbI P C ops o σ (σ.addF x)
 | .tn M=>∀σ,Sub σ (bof base ((QS its).take (j0 its i)))->(∀k y fl nf,its[k]? = some (.add y fl nf)->QkW o k=true->Qmt σ y fl (((QS its).take (j0 its i)).drop (j0 its k)))->QbI P C ops o σ (M.run σ)
theorem Qhi {listed:Array Bool}(hd:Qt3 ops listed):∀(n:Nat) {i k:Nat},Qg1 ops n i k=true->listed[k]? = some true->listed[i]? = some true:=by
 intro n
 induction n with
 | zero=>intro i k h;cases h
 | succ n ih=>
  intro i k h hk
  rw [Qg1]at h
  split at h
  ·rename_i o ho
   rw [QcM]at h
   rcases h with h | h
   ·simp only [QkW,Qlt,QB]at h
    obtain⟨e,he,hb,hon⟩:=h
    have:=hd k o ho hk e (QvX.1 he) hb
    rwa [QaD hon]at this
   simp only [Qlt,QB]at h
   obtain⟨e,he,hb,hm⟩:=h
   exact ih hm (hd k o ho hk e (QvX.1 he) hb)
  cases h
theorem QvQ {listed:Array Bool}(hs:listed.size=ops.size)(hd:Qt3 ops listed){n i k:Nat}(h:Qg1 ops n i k=true)(hk:k∈Region.ready .any ops listed):listed[i]? = some true:=by
 obtain⟨o,ho,hl,hdeps⟩:=(Ql7 hs).1 hk
 cases n with
 | zero=>cases h
 | succ n=>
  rw [Qg1,ho]at h
  dsimp only at h
  rw [QcM]at h
  rcases h with h | h
  ·simp only [QkW,Qlt,QB]at h
   obtain⟨e,he,hb,hon⟩:=h
   have:=hdeps e (QvX.1 he) hb
   rwa [QaD hon]at this
  simp only [Qlt,QB]at h
  obtain⟨e,he,hb,hm⟩:=h
  exact Qhi hd n hm (hdeps e (QvX.1 he) hb)
theorem Qge : ∀{l m:List It},QS (l++m)=QS l++QS m:=by
 intro l
 induction l with
 | nil=>intro m;rfl
 | cons x l ih=>intro m;cases x<;>simp [QS,ih]
theorem QwZ {ms ns:List Mut}:∀{B:St},bof B (ms++ns)=bof (bof B ms) ns:=by
 induction ms with
 | nil=>intro B;rfl
 | cons M ms ih=>intro B;exact ih
theorem QAX {its:List It}{i:Nat}{M:Mut}(h:its[i]? = some (.tn M)):(QS its)[j0 its i]? = some M/\(QS its).take (j0 its i+1)=(QS its).take (j0 its i)++[M]:=by
 have hlt:=(QX.1 h).1
 have e:its=its.take i++(.tn M::its.drop (i+1)):=by
  have:its.drop i=its[i]::its.drop (i+1):=List.drop_eq_getElem_cons hlt
  have h2:its[i]=.tn M:=by have:=QM hlt;rw [h]at this;exact(Option.some.inj this).symm
  rw [h2]at this
  rw [<-this,List.take_append_drop]
 have e2:QS its=QS (its.take i)++(M::QS (its.drop (i+1))):=by
  conv=>lhs;rw [e]
  rw [Qge];rfl
 unfold j0
 rw [e2]
 refine⟨by simp,?_⟩
 rw [List.take_append,List.take_append]
 simp [Qmj]
theorem QAY {σ:St}{x:DF}{M:Mut}(hk:Qzb x M=true)(h:QsA σ x):QsA (M.run σ) x:=by
 unfold Qzb Qza at hk
 rw [QB]at hk
 refine⟨Mut.keeps_look hk.1 h.1,fun ob hob=>?_⟩
 rw [hob]at hk
 have hk2:=hk.2
 dsimp only at hk2
 rw [QB]at hk2
 exact Mut.keepsO_look hk2.1 hk2.2 (h.2 ob hob)
theorem Qmt.of {σ:St}{x:DF}{fl:Bool}{ms:List Mut}(h:QsA σ x):Qmt σ x fl ms:=⟨fun _=>h.1,fun _=>h.2⟩
theorem Qmt.run {σ:St}{x:DF}{fl:Bool}{ms:List Mut}{M:Mut}(h:Qmt σ x fl ms):Qmt (M.run σ) x fl (ms++[M]):=by
 refine⟨fun hal=>?_,fun hal ob hob=>?_⟩
 ·simp only [alv,List.all_append,QB,Qnz,List.all_nil,Bool.and_true]at hal
  exact Mut.keeps_look hal.2 (h.1 (by simp only [alv];exact hal.1))
 simp only [QrA,List.all_append,QB,Qnz,List.all_nil,Bool.and_true]at hal
 have h1:=h.2 (by simp only [QrA];exact hal.1) ob hob
 have hk:=hal.2
 unfold Qza at hk
 rw [hob]at hk
 dsimp only at hk
 rw [QB]at hk
 exact Mut.keepsO_look hk.1 hk.2 h1
theorem QBI {p:Nat}{M:Mut}(h:its[p]? = some (.tn M)):j0 its (p+1)=j0 its p+1:=by
 have hlt:=(QX.1 h).1
 unfold j0
 rw [Qo3,h,Qge];simp [QS]
theorem Qw0 : ∀{a b:Nat},a<=b->j0 its a<=j0 its b:=by
 intro a b h
 unfold j0
 obtain⟨c,rfl⟩:=Nat.exists_eq_add_of_le h
 rw [List.take_add,Qge];simp
theorem QAZ {p i:Nat}{M:Mut}(h:its[p]? = some (.tn M))(hpi:p<i):j0 its p<j0 its i:=by
 have:=QBI h
 have:=Qw0 (its:=its) (show p+1<=i from hpi)
 omega
theorem Qvb : ∀{its:List It} {c:Nat},c<(QS its).length->∃p M,its[p]? = some (.tn M)/\j0 its p=c:=by
 intro its
 induction its with
 | nil=>intro c h;simp [QS]at h
 | cons it its ih=>
  intro c h
  cases it with
  | add x fl=>
   obtain⟨p,M,h1,h2⟩:=ih (c:=c) h
   exact⟨p+1,M,by simpa using h1,by simpa [j0,QS] using h2⟩
  | tn M=>
   cases c with
   | zero=>exact⟨0,M,rfl,by simp [j0,QS]⟩
   | succ c=>
    obtain⟨p,M',h1,h2⟩:=ih (c:=c) (by simpa [QS] using h)
    exact⟨p+1,M',by simpa using h1,by simpa [j0,QS] using h2⟩
theorem Qzy {p:Nat}{M:Mut}(h:its[p]? = some (.tn M)):j0 its p<(QS its).length:=(QX.1 (QAX h).1).1
theorem Sub.stable : ∀{ms:List Mut} {B S:St},Que ms S=true->Sub B S->∀n,Sub (bof B (ms.take n)) S:=by
 intro ms
 induction ms with
 | nil=>intro B S _ h n;simpa [bof] using h
 | cons M ms ih=>
  intro B S hk h n
  cases n with
  | zero=>exact h
  | succ n=>
   unfold Que at hk
   rw [QB,Q9,Q9]at hk
   refine ih (B:=M.run B) ?_ ⟨fun t v hv=>?_,fun p ob hob=>?_⟩ n
   ·unfold Que
    rw [QB,Q9,Q9]
    exact⟨fun p hp=>by have:=hk.1 p hp;rw [Qnz,QB]at this;exact this.2,fun p hp=>by have:=hk.2 p hp;rw [Qnz,QB]at this;exact this.2⟩
   ·have:=hk.1 (t,v) (Qa9 hv)
    rw [Qnz,QB]at this
    exact Mut.keeps_look this.1 (h.1 t v hv)
   have:=hk.2 (p,ob) (Qa9 hob)
   rw [Qnz,QB,QB]at this
   exact Mut.keepsO_look this.1.1 this.1.2 (h.2 p ob hob)
theorem QsL : ∀{its:List It} {i:Nat} {x:DF} {fl nf:Bool},its[i]? = some (.add x fl nf)->x.d∈QpA its/\(x.ob.isSome=true->x.d∈QsK its):=by
 intro its
 induction its with
 | nil=>intro i x fl nf h;simp at h
 | cons it its ih=>
  intro i x fl nf h
  cases i with
  | zero=>
   simp at h;subst h
   refine⟨Qb9,fun hs=>?_⟩
   rw [QsK];split
   ·exact Qb9
   rename_i he;rw [he]at hs;cases hs
  | succ i=>
   obtain⟨a,b⟩:=ih (i:=i) (by simpa using h)
   cases it with
   | add y fl' nf'=>
    refine⟨QcN _ a,fun hs=>?_⟩
    rw [QsK];split
    ·exact QcN _ (b hs)
    exact b hs
   | tn M=>exact⟨a,b⟩
theorem Qv2 : ∀{its:List It},(QpA its).Nodup->∀{i k:Nat} {x y:DF} {fl fl' nf nf':Bool},its[i]? = some (.add x fl nf)->its[k]? = some (.add y fl' nf')->x.d=y.d->i=k:=by
 intro its
 induction its with
 | nil=>intro _ i k x y fl fl' nf nf' h;simp at h
 | cons it its ih=>
  intro hn i k x y fl fl' nf nf' hi hk e
  cases it with
  | tn M=>
   cases i with
   | zero=>simp at hi
   | succ i=>cases k with
    | zero=>simp at hk
    | succ k=>rw [ih hn (i:=i) (k:=k) (by simpa using hi) (by simpa using hk) e]
  | add z f g=>
   rw [QpA,Qlv]at hn
   cases i with
   | zero=>
    cases k with
    | zero=>rfl
    | succ k=>
     simp at hi;obtain⟨rfl,rfl,rfl⟩:=hi
     exact absurd (by rw [e];exact(QsL (i:=k) (by simpa using hk)).1) hn.1
   | succ i=>
    cases k with
    | zero=>
     simp at hk;obtain⟨rfl,rfl,rfl⟩:=hk
     exact absurd (by rw [<-e];exact(QsL (i:=i) (by simpa using hi)).1) hn.1
    | succ k=>rw [ih hn.2 (i:=i) (k:=k) (by simpa using hi) (by simpa using hk) e]
theorem QCI {M:Mut}{B:St}{t:Nat}{v:V}(h:look (M.run B).fr t=some v):(∃u,look B.fr t=some u)\/∃u,M.put=some (t,u):=by
 have kill:∀{l:List Nat} {B:St} {v:V},look (B.killL l).fr t=some v->∃u,look B.fr t=some u:=by
  intro l
  induction l with
  | nil=>intro B v h;exact⟨v,h⟩
  | cons b l ih=>
   intro B v h
   obtain⟨u,hu⟩:=ih h
   have hu:look (Qim b B.fr) t=some u:=hu
   rw [Qnj]at hu
   obtain⟨w,hw,_⟩:=Qax.1 hu
   exact⟨w,hw⟩
 unfold Mut.run at h
 split at h
 ·rw [QxS]at h;exact .inl (kill h)
 rename_i d u hp
 by_cases e:d=t
 ·subst e;exact .inr ⟨u,hp⟩
 have h:look ((d,u)::((B.killL M.kills).sets M.sets).fr) t=some v:=h
 rw [Qt _ _ e,QxS]at h;exact .inl (kill h)
theorem QBJ {M:Mut}{B:St}{p:Nat}{ob:Ob}(h:look (M.run B).hp p=some ob):(∃u,look B.hp p=some u)\/p∈M.sets.map Prod.fst:=by
 have kill:∀{l:List Nat} {B:St} {ob:Ob},look (B.killL l).hp p=some ob->∃u,look B.hp p=some u:=by
  intro l
  induction l with
  | nil=>intro B ob h;exact⟨ob,h⟩
  | cons b l ih=>
   intro B ob h
   obtain⟨u,hu⟩:=ih h
   have hu:look (Qe7 b B.hp) p=some u:=hu
   rw [Qkk]at hu
   split at hu
   ·cases hu
   obtain⟨w,hw,_⟩:=Qax.1 hu
   exact⟨w,hw⟩
 have sets:∀{l:List (Nat×Ob)} {B:St} {ob:Ob},look (B.sets l).hp p=some ob->(∃u,look B.hp p=some u)\/p∈l.map Prod.fst:=by
  intro l
  induction l with
  | nil=>intro B ob h;exact .inl ⟨ob,h⟩
  | cons q l ih=>
   intro B ob h
   by_cases e:q.1=p
   ·exact .inr (by rw [Qgq,e];exact Qb9)
   have h:look ((B.sets l).set q.1 q.2).hp p=some ob:=h
   rw [St.look_set_other _ _ e]at h
   exact(ih h).imp id (QcN _)
 have h1:look ((B.killL M.kills).sets M.sets).hp p=some ob:=by
  unfold Mut.run at h
  split at h<;>exact h
 rcases sets h1 with⟨u,hu⟩|h2
 ·exact .inl (kill hu)
 exact .inr h2
theorem QCJ : ∀{ms:List Mut} {B:St} {t:Nat} {v:V},look (bof B ms).fr t=some v->(∃u,look B.fr t=some u)\/t∈QjI ms:=by
 intro ms
 induction ms with
 | nil=>intro B t v h;exact .inl ⟨v,h⟩
 | cons M ms ih=>
  intro B t v h
  rcases ih h with⟨u,hu⟩|h
  ·rcases QCI hu with h | ⟨u,hp⟩
   ·exact .inl h
   refine .inr ?_;rw [QjI,hp];exact Qb9
  refine .inr ?_;rw [QjI];split
  ·exact QcN _ h
  exact h
theorem QBK : ∀{ms:List Mut} {B:St} {p:Nat} {ob:Ob},look (bof B ms).hp p=some ob->(∃u,look B.hp p=some u)\/p∈Qzw ms:=by
 intro ms
 induction ms with
 | nil=>intro B p ob h;exact .inl ⟨ob,h⟩
 | cons M ms ih=>
  intro B p ob h
  rcases ih h with⟨u,hu⟩|h
  ·rcases QBJ hu with h | h
   ·exact .inl h
   exact .inr (List.mem_append_left _ h)
  exact .inr (List.mem_append_right _ h)
theorem QAg : ∀{ms:List Mut} {n t:Nat},t∈QjI (ms.take n)->t∈QjI ms:=by
 intro ms
 induction ms with
 | nil=>intro n t h;simpa using h
 | cons M ms ih=>
  intro n t h
  cases n with
  | zero=>simp [QjI]at h
  | succ n=>
   rw [List.take_succ_cons,QjI]at h
   rw [QjI]
   split at h
   ·rcases Qbb.1 h with rfl | h
    ·exact Qb9
    exact QcN _ (ih h)
   exact ih h
def QER (base:St)(its:List It)(listed:Array Bool)(σ:St):Prop:=∃j,j<=(QS its).length/\(∀p M,its[p]? = some (.tn M)->(listed[p]? = some true↔j0 its p<j))/\Sub σ (bof base ((QS its).take j))/\
 ∀i x fl nf,its[i]? = some (.add x fl nf)->(listed[i]? = some true->Qmt σ x fl (((QS its).take j).drop (j0 its i)))/\(listed[i]? ≠ some true->x.ob.isSome=true->look σ.hp x.d=none)/\(fl=true->listed[i]? = some true->QjJ (QS its) its=true\/j<(QS its).length->QsA σ x)
def QDK (ops:Array Oper)(its:List It):Bool:=QsJ its (its.length-1)&&(List.range (its.length-1)).all fun i=>Qg1 ops 8 i (its.length-1)
def QxU (ops:Array Oper)(ms:List Mut)(its:List It):Bool:=QjJ ms its||(QjJ (ms.take (ms.length-1)) its&&QDK ops its)
def QCK (its:List It)(i:Nat):Bool:=match its[i]? with
 | some (.add _ true false)=>true
 | _=>false
def QDL (ops:Array Oper)(its:List It)(p:Nat):Bool:=QsJ its p&&Nat.beq (j0 its p+1) (QS its).length&&(List.range its.length).all fun i=>!QCK its i||Qg1 ops 8 i p
def QxV (ops:Array Oper)(its:List It)(ms:List Mut)(S:St):Bool:=Que ms S||(Que (ms.take (ms.length-1)) S&&(List.range its.length).any (QDL ops its))
theorem AK.drawV {id:Nat}(hmix:P.follows .mixedOrders=true)(hlen:its.length=ops.size)(hord:QxO ops=true)(hov:QCH ops its=true)(hap:Qzx base its=true)(hsv:QAW ops its=true)(hfk:QxU ops (QS its) its=true)(hsk:QxV ops its (QS its) S=true)(hS:Sub base S)
  (steps:∀i o it,ops[i]? = some o->its[i]? = some it->QrR P C ops base S its i o it)
  (k:∀σ,Sub σ (bof base (QS its))->(∀i x fl nf,its[i]? = some (.add x fl nf)->Qmt σ x fl ((QS its).drop (j0 its i)))->AK P C Q (.x .normal) ks σ):AK P C Q (.c (.region id ops true)) ks base:=by
 simp only [Qzx,QB,Q9,QeP]at hap
 obtain⟨⟨hnd,hd1⟩,hd2⟩:=hap
 have hnd:=QcP.1 hnd
 have ord:∀i p it M,its[i]? = some it->its[p]? = some (.tn M)->p≠i->(∀x,it≠.add x true false)->(p<i->Qg1 ops 8 p i=true)/\(i<p->Qg1 ops 8 i p=true):=by
  intro i p it M hi hp hne hnf
  have hil:=(QX.1 hi).1
  have hpl:=(QX.1 hp).1
  unfold QCH at hov
  rw [Q9]at hov
  have h1:=hov i (QiW.2 hil)
  rw [Q9]at h1
  have h2:=h1 p (QiW.2 hpl)
  have hm:QsJ its p=true:=by unfold QsJ;rw [hp]
  have hb:Nat.beq p i=false:=by cases hb:Nat.beq p i with
   | true=>exact absurd (QaD hb) hne
   | false=>rfl
  rw [hm,hb,hi]at h2
  simp only [QeQ,Bool.false_or]at h2
  have h3:(bif Nat.ble (p+1) i then Qg1 ops 8 p i else Qg1 ops 8 i p)=true:=by
   cases it with
   | add x fl nf=>cases fl with
    | true=>cases nf with
     | false=>exact absurd rfl (hnf x)
     | true=>exact h2
    | false=>exact h2
   | tn M=>exact h2
  refine⟨fun h=>?_,fun h=>?_⟩
  ·rw [show Nat.ble (p+1) i=true from QqF h]at h3;exact h3
  have:Nat.ble (p+1) i=false:=by cases hc:Nat.ble (p+1) i with
   | true=>have:=QbZ hc;omega
   | false=>rfl
  rw [this]at h3;exact h3
 have sets:∀(i p:Nat) (x:DF) (fl nf:Bool) (M:Mut),its[i]? = some (.add x fl nf)->its[p]? = some (.tn M)->x.ob.isSome=true->x.d∈M.sets.map Prod.fst->Qg1 ops 8 i p=true:=by
  intro i p x fl nf M hi hp hob hmem
  have hil:=(QX.1 hi).1
  have hpl:=(QX.1 hp).1
  unfold QAW at hsv
  rw [Q9]at hsv
  have h1:=hsv i (QiW.2 hil)
  rw [Q9]at h1
  have h2:=h1 p (QiW.2 hpl)
  rw [hi,hp]at h2
  dsimp only at h2
  rw [QjG.2 hmem]at h2
  have:x.ob.isNone=false:=by cases hx:x.ob with
   | none=>rw [hx]at hob;cases hob
   | some=>rfl
  rw [this]at h2
  simpa using h2
 have memSets:∀{ms:List Mut} {d:Nat},d∈Qzw ms->∃(c:Nat) (M:Mut),ms[c]? = some M/\d∈M.sets.map Prod.fst:=by
  intro ms
  induction ms with
  | nil=>intro d h;cases h
  | cons N ms ih=>
   intro d h
   rcases Qei.1 h with h | h
   ·exact⟨0,N,rfl,h⟩
   obtain⟨c,M,h1,h2⟩:=ih h;exact⟨c+1,M,by simpa using h1,h2⟩
 have all:∀{l:List It} {ms:List Mut},QjJ ms l=true->∀{q:Nat} {y:DF} {nf:Bool},l[q]? = some (.add y true nf)->ms.all (Qzb y)=true:=by
  intro l
  induction l with
  | nil=>intro ms _ q y nf h;simp at h
  | cons it l ih=>
   intro ms h q y nf hq
   cases it with
   | add z f g=>
    rw [QjJ,QB]at h
    cases q with
    | zero=>simp at hq;obtain⟨rfl,rfl,rfl⟩:=hq;simpa using h.1
    | succ q=>exact ih h.2 (by simpa using hq)
   | tn M=>
    cases q with
    | zero=>simp at hq
    | succ q=>exact ih h (by simpa using hq)
 have lst:QjJ (QS its) its=true\/(QjJ ((QS its).take ((QS its).length-1)) its=true/\(∃M,its[its.length-1]? = some (.tn M)/\j0 its (its.length-1)+1=(QS its).length)/\∀i,i<its.length-1->Qg1 ops 8 i (its.length-1)=true):=by
  unfold QxU at hfk
  rw [QcM,QB]at hfk
  refine hfk.imp_right fun h=>⟨h.1,?_⟩
  have h2:=h.2
  unfold QDK at h2
  rw [QB,Q9]at h2
  obtain⟨p1,p2⟩:=h2
  refine⟨?_,fun i hi=>p2 i (QiW.2 hi)⟩
  unfold QsJ at p1
  split at p1
  ·rename_i M hM
   refine⟨M,hM,?_⟩
   have h3:=QBI hM
   have hl:=(QX.1 hM).1
   have h4:j0 its its.length=(QS its).length:=by unfold j0;rw [Qki]
   rw [show its.length-1+1=its.length by omega]at h3
   omega
  cases p1
 refine AK.regionInv (QER base its) hmix ?_ hord ?_ ?_
 ·intro listed σ i o hs hd hi ho ⟨j,hj,hmu,hsub,hadd⟩
  obtain⟨o',ho',hl,hdeps⟩:=(Ql7 hs).1 hi
  rw [ho]at ho';cases ho'
  have hio:i<ops.size:=(Qhe.1 ho).1
  have hil:i<its.length:=by omega
  have hin:i<listed.size:=by omega
  obtain⟨it,hit⟩:∃it,its[i]? = some it:=⟨_,QM hil⟩
  have hnl:listed[i]? ≠ some true:=by rw [hl];simp
  have hst:=steps i o it ho hit
  have depsL:∀{q:Nat},QkW o q=true->listed[q]? = some true:=fun hdep=>by
   simp only [QkW,Qlt,QB]at hdep
   obtain⟨e,he,hb,hon⟩:=hdep
   have:=hdeps e (QvX.1 he) hb
   rwa [QaD hon]at this
  have stage:(∀x,it≠.add x true false)->j=j0 its i:=by
   intro hnf
   apply Nat.le_antisymm
   ·rcases QeF (j0 its i) j with hlt | h
    ·obtain⟨p,M,hp,hpj⟩:=Qvb (its:=its) (c:=j0 its i) (by omega)
     have hpl:listed[p]? = some true:=(hmu p M hp).2 (by omega)
     rcases Nat.lt_trichotomy p i with h | h | h
     ·have:=QAZ hp h;omega
     ·subst h;exact absurd hpl hnl
     have hm:=(ord i p it M hit hp (by omega) hnf).2 h
     exact absurd (Qhi hd 8 hm hpl) hnl
    exact h
   rcases Nat.eq_zero_or_pos (j0 its i)with h | h
   ·omega
   have hle:j0 its i<=(QS its).length:=by
    have h1:=Qw0 (its:=its) (show i<=its.length by omega)
    have h2:j0 its its.length=(QS its).length:=by unfold j0;rw [Qki]
    omega
   obtain⟨p,M,hp,hpj⟩:=Qvb (its:=its) (c:=j0 its i-1) (by omega)
   have hpi:p<i:=by
    rcases Nat.lt_trichotomy p i with h' | h' | h'
    ·exact h'
    ·subst h';omega
    have:=Qw0 (its:=its) (Nat.le_of_lt h');omega
   have hm:=(ord i p it M hit hp (by omega) hnf).1 hpi
   have:=(hmu p M hp).1 (QvQ hs hd hm hi)
   omega
  have setL:∀q,(listed.setIfInBounds i true)[q]? = some true↔q=i\/listed[q]? = some true:=fun q=>by
   by_cases e:i=q
   ·subst e;simp [Qrt,hin]
   rw [Qze e];simp [Ne.symm e]
  cases it with
  | tn M=>
   have hjj:=stage fun x e=>by cases e
   subst hjj
   have hM:=QAX hit
   have hos:QbI P C ops o σ (M.run σ):=hst σ hsub fun q y fl nf hq hdep=>(hadd q y fl nf hq).1 (depsL hdep)
   have flt:∀{q:Nat} {y:DF} {fl nf:Bool},fl=true->listed[q]? = some true->its[q]? = some (.add y fl nf)->QjJ (QS its) its=true\/j0 its i+1<(QS its).length->QsA (M.run σ) y:=by
    intro q y fl nf hfl hql hq hz
    subst hfl
    have h1:=(hadd q y true nf hq).2.2 rfl hql (hz.imp_right fun h=>by omega)
    refine QAY ?_ h1
    rcases lst with h | ⟨h,_,_⟩
    ·exact Q9.1 (all h hq) M (Qaa hM.1)
    rcases hz with hz | hz
    ·exact Q9.1 (all hz hq) M (Qaa hM.1)
    refine Q9.1 (all h hq) M (Qaa (i:=j0 its i) ?_)
    rw [List.getElem?_take_of_lt (by omega)];exact hM.1
   refine⟨_,hos,j0 its i+1,by have:=Qzy hit;omega,fun p M' hp=>?_,?_,fun q y fl nf hq=>⟨fun hql=>?_,fun hql hob=>?_,fun hfl hql hz=>?_⟩⟩
   ·rw [setL]
    constructor
    ·rintro (rfl | h)
     ·omega
     have:=(hmu p M' hp).1 h;omega
    intro h
    rcases QeF (j0 its p) (j0 its i)with h1 | h1
    ·exact .inr ((hmu p M' hp).2 h1)
    left
    rcases Nat.lt_trichotomy p i with h' | h' | h'
    ·have:=QAZ hp h';omega
    ·exact h'
    have:=QAZ hit h';omega
   ·rw [hM.2,QwZ];exact hsub.run M
   ·rcases(setL q).1 hql with rfl | hql
    ·rw [hit]at hq;cases hq
    rcases QeF (j0 its i) (j0 its q)with hlt | hle
    ·cases fl with
     | true=>
      refine Qmt.of (flt rfl hql hq ?_)
      rcases lst with h | ⟨_,⟨M',hp,hpj⟩,_⟩
      ·exact .inl h
      right
      have hqi:q<=its.length-1:=by have:=(QX.1 hq).1;omega
      have:=Qw0 (its:=its) hqi
      omega
     | false=>
      exfalso
      have hiq:i<q:=by
       rcases QeF i q with h | h
       ·exact h
       have:=Qw0 (its:=its) h;omega
      have hm:=(ord q i _ M hq hit (by omega) (fun x e=>by cases e)).1 hiq
      exact absurd (Qhi hd 8 hm hql) hnl
    rw [hM.2,List.drop_append_of_le_length (by simp;have:=Qzy hit;omega)]
    exact((hadd q y fl nf hq).1 hql).run
   ·have hqi:q≠i:=fun e=>by subst e;rw [hit]at hq;cases hq
    have hql':listed[q]? ≠ some true:=fun h=>hql ((setL q).2 (.inr h))
    refine Mut.none_look ?_ ((hadd q y fl nf hq).2.1 hql' hob)
    rw [Q9]
    intro r hr
    cases hb:Nat.beq r.1 y.d with
    | false=>rfl
    | true=>
     have hm:=sets q i y fl nf M hq hit hob (by rw [<-QaD hb];exact List.mem_map_of_mem hr)
     exact absurd (QvQ hs hd hm hi) hql'
   refine flt hfl ((setL q).1 hql |>.resolve_left fun e=>by subst e;rw [hit]at hq;cases hq) hq hz
  | add x fl nf=>
   have hfresh:x.ob.isSome=true->look σ.hp x.d=none:=(hadd i x fl nf hit).2.1 hnl
   have hos:QbI P C ops o σ (σ.addF x):=by
    have hB:¬(fl=true/\nf=false)->(∀σ,Sub σ (bof base ((QS its).take (j0 its i)))->(∀k y fl nf,its[k]? = some (.add y fl nf)->QkW o k=true->Qmt σ y fl (((QS its).take (j0 its i)).drop (j0 its k)))->(x.ob.isSome=true->look σ.hp x.d=none)->QbI P C ops o σ (σ.addF x))->QbI P C ops o σ (σ.addF x):=fun hne hst=>by
     have hjj:=stage fun y e=>by cases e;exact hne ⟨rfl,rfl⟩
     subst hjj
     exact hst σ hsub (fun q y fl nf hq hdep=>(hadd q y fl nf hq).1 (depsL hdep)) hfresh
    cases fl with
    | true=>cases nf with
     | false=>
      have h1:Sub base S:=hS
      have hZ:QjJ (QS its) its=true\/j<(QS its).length:=by
       refine lst.imp_right fun ⟨_,⟨M,hp,hpj⟩,hall⟩=>?_
       rcases QeF j (QS its).length with h | h
       ·exact h
       exfalso
       have hpl:=(hmu _ M hp).2 (by omega)
       have hne:i≠its.length-1:=fun e=>by rw [<-e,hit]at hp;cases hp
       exact absurd (Qhi hd 8 (hall i (by omega)) hpl) hnl
      have h2:Sub (bof base ((QS its).take j)) S:=by
       unfold QxV at hsk
       rw [QcM]at hsk
       rcases hsk with hsk | hsk
       ·exact Sub.stable hsk h1 j
       rw [QB,Qlt]at hsk
       obtain⟨hs1,p,_,hp⟩:=hsk
       unfold QDL at hp
       simp only [QB]at hp
       obtain⟨⟨p1,p2⟩,p3⟩:=hp
       have hjm:j<=(QS its).length-1:=by
        rcases QeF ((QS its).length-1) j with hlt | h
        ·exfalso
         obtain⟨M,hM⟩:∃M,its[p]? = some (.tn M):=by
          unfold QsJ at p1
          split at p1
          ·exact⟨_,‹_›⟩
          cases p1
         have p2:=QaD p2
         have hpl:=(hmu p M hM).2 (by omega)
         have h3:=Q9.1 p3 i (QiW.2 hil)
         have hf:QCK its i=true:=by unfold QCK;rw [hit]
         rw [hf]at h3
         exact absurd (Qhi hd 8 h3 hpl) hnl
        exact h
       have h4:=Sub.stable hs1 h1 j
       rwa [List.take_take,Nat.min_eq_left hjm]at h4
      exact hst σ ⟨fun t v h=>hsub.1 t v (h2.1 t v h),fun p ob h=>hsub.2 p ob (h2.2 p ob h)⟩ (fun q y nf hq hdep=>(hadd q y true nf hq).2.2 rfl (depsL hdep) hZ) hfresh
     | true=>exact hB (fun e=>by cases e.2) hst
    | false=>exact hB (fun e=>by cases e.1) hst
   obtain⟨hmd,hmo⟩:=QsL hit
   have frK:∀t v,t≠x.d->look σ.fr t=some v->look (σ.addF x).fr t=some v:=by
    intro t v hne h
    unfold St.addF
    split
    ·show look ((x.d,x.v)::σ.fr) t=some v
     rw [Qt _ _ (Ne.symm hne)];exact h
    show look ((x.d,x.v)::σ.fr) t=some v
    rw [Qt _ _ (Ne.symm hne)];exact h
   have hpK:∀p,(p≠x.d\/x.ob=none)->look (σ.addF x).hp p=look σ.hp p:=by
    intro p hne
    unfold St.addF
    split
    ·rfl
    rename_i ob hob
    rcases hne with hne | hne
    ·exact σ.look_set_other _ (Ne.symm hne)
    rw [hob]at hne;cases hne
   refine⟨_,hos,j,hj,fun p M hp=>?_,⟨fun t v h=>?_,fun p ob h=>?_⟩,fun q y fl' nf' hq=>⟨fun hql=>?_,fun hql hob=>?_,fun hfl hql hz=>?_⟩⟩
   ·rw [setL,<-hmu p M hp]
    have:p≠i:=fun e=>by subst e;rw [hit]at hp;cases hp
    simp [this]
   ·refine frK t v (fun e=>?_) (hsub.1 t v h)
    subst e
    have h1:=hd1 _ hmd
    rcases QCJ h with⟨u,hu⟩|h2
    ·rw [Qpu hu]at h1;cases h1.1
    rw [QjG.2 (QAg h2)]at h1;cases h1.2
   ·have hne:p≠x.d\/x.ob=none:=by
     cases hob:x.ob with
     | none=>exact .inr rfl
     | some ob'=>
      refine .inl fun e=>?_
      subst e
      have hob':x.ob.isSome=true:=by rw [hob];rfl
      have h1:=hd2 _ (hmo hob')
      rcases QBK h with⟨u,hu⟩|h2
      ·rw [Qpu hu]at h1;cases h1
      obtain⟨c,M,h3,h4⟩:=memSets h2
      have hc:c<j:=by
       have:=(QX.1 h3).1
       simp at this;omega
      have h3':(QS its)[c]? = some M:=by rw [List.getElem?_take_of_lt hc]at h3;exact h3
      obtain⟨p',M',hp',hpc⟩:=Qvb (its:=its) (c:=c) (QX.1 h3').1
      have h5:=(QAX hp').1
      rw [hpc,h3']at h5;cases h5
      have hm:=sets i p' x fl nf M hit hp' hob' h4
      exact absurd (Qhi hd 8 hm ((hmu p' M hp').2 (by omega))) hnl
    rw [hpK p hne];exact hsub.2 p ob h
   ·by_cases e:q=i
    ·subst e
     rw [hit]at hq;cases hq
     refine Qmt.of ⟨?_,fun ob hob=>?_⟩
     ·unfold St.addF
      split<;>exact Qv _ _ _
     unfold St.addF
     rw [hob];exact Qv _ _ _
    have hql':listed[q]? = some true:=((setL q).1 hql).resolve_left e
    obtain⟨h1,h2⟩:=(hadd q y fl' nf' hq).1 hql'
    have hne:y.d≠x.d:=fun h=>e (Qv2 hnd hq hit h)
    exact⟨fun hal=>frK _ _ hne (h1 hal),fun hal ob hob=>by rw [hpK _ (.inl hne)];exact h2 hal ob hob⟩
   ·have e:q≠i:=fun e=>hql ((setL q).2 (.inl e))
    have hql':listed[q]? ≠ some true:=fun h=>hql ((setL q).2 (.inr h))
    have hne:y.d≠x.d:=fun h=>e (Qv2 hnd hq hit h)
    rw [hpK _ (.inl hne)];exact(hadd q y fl' nf' hq).2.1 hql' hob
   by_cases e:q=i
   ·subst e
    rw [hit]at hq;cases hq
    refine⟨?_,fun ob hob=>?_⟩
    ·unfold St.addF
     split<;>exact Qv _ _ _
    unfold St.addF
    rw [hob];exact Qv _ _ _
   have hql':listed[q]? = some true:=((setL q).1 hql).resolve_left e
   obtain⟨h1,h2⟩:=(hadd q y fl' nf' hq).2.2 hfl hql' hz
   have hne:y.d≠x.d:=fun h=>e (Qv2 hnd hq hit h)
   exact⟨frK _ _ hne h1,fun ob hob=>by rw [hpK _ (.inl hne)];exact h2 ob hob⟩
 ·refine⟨0,Nat.zero_le _,fun p M _=>by simp [Array.getElem?_replicate],⟨fun _ _ h=>h,fun _ _ h=>h⟩,fun i x fl nf hi=>⟨fun h=>by simp [Array.getElem?_replicate]at h,fun _ hob=>?_,fun _ h=>by simp [Array.getElem?_replicate]at h⟩⟩
  have h1:=hd2 _ ((QsL hi).2 hob)
  cases h:look base.hp x.d with
  | none=>rfl
  | some ob=>rw [Qpu h]at h1;cases h1
 intro listed σ hs hall ⟨j,hj,hmu,hsub,hadd⟩
 have hjt:j=(QS its).length:=by
  rcases QeF j (QS its).length with h | h
  ·obtain⟨p,M,hp,hpj⟩:=Qvb (its:=its) h
   have:=(hmu p M hp).1 (hall p (by have:=(QX.1 hp).1;omega))
   omega
  omega
 subst hjt
 rw [Qki]at hsub
 refine k σ hsub fun i x fl nf hi=>?_
 have:=(hadd i x fl nf hi).1 (hall i (by have:=(QX.1 hi).1;omega))
 rwa [Qki]at this
end
inductive MD where
 | s
 | st (r:List V) (rs:List (List V))
 | app (rs:List (List V)) (m:Nat)
 | any (M:Mut)
 | cm (en:Ent) (M N:List (Nat×Nat)) (dead:List Nat) (ms:List Qe3) (outs:List (Nat×Ob)) (r:V) (same:List Nat)
inductive Dw where
 | a (h:QcU) (sv:Option (List (Option Nat)×V)) (fl:Bool) (nf:Bool:=false)
 | m (md:MD)
def QCL (P:Program)(T:Tab)(f:Operand->Option V)(hp:Nat->Option Ob)(c:Call):Ent->Option (Nat×List V×Prop)
 | .fn=>match c.callee with
  | .value (.func g)=>bif Q6 T.en g then match evs f c.args.toList with
   | some vs=>some (g,vs,True)
   | none=>none
   else none
  | _=>none
 | .clo=>match c.callee with
  | .value x=>match f x with
   | some (.clo (.func g) fs cs)=>bif Q6 T.en g then match evs f c.args.toList with
    | some vs=>some (g,fs++(vs++cs),True)
    | none=>none
    else none
   | _=>none
  | _=>none
 | .me g=>match c.callee with
  | .invoke x name=>match f x with
   | some (.ifc t u)=>bif Q6 T.en g then match evs f c.args.toList with
    | some vs=>some (g,u::vs,(Qmo P t name=some (g,true)/\Qzj P t=true)\/(Qmo P t name=some (g,false)/\Qt6 P t=true))
    | none=>none
    else none
   | _=>none
  | _=>none
 | .mv g e=>match c.callee with
  | .invoke x name=>match f x with
   | some (.ifc t (.loc b 0 off))=>match hp b with
    | some (.var cs)=>match cs[off]? with
     | some r=>bif Q6 T.en g then match evs f c.args.toList with
      | some vs=>some (g,r::vs,Qmo P t name=some (g,false)/\QwU P t e=true/\Qf8 P e=some false)
      | none=>none
      else none
     | none=>none
    | _=>none
   | _=>none
  | _=>none
theorem QA0 {P:Program}{C:Ctx}{T:Tab}{f:Operand->Option V}{hp:Nat->Option Ob}{o:Oper}{c:Call}{en:Ent}{g:Nat}{vs:List V}{ψ:Prop}{σ:St}(ok:QdE P T)(ho:o.op=.call c)(e:QCL P T f hp c en=some (g,vs,ψ))(hφ:ψ)
  (h1:∀x u,f x=some u->σ.opd x=some u) (h2:∀b u,hp b=some u->look σ.hp b=some u):QaS P C o σ g vs:=by
 obtain⟨ce,ags,ts⟩:=c
 unfold QCL at e
 split at e
 ·split at e
  ·rename_i f' hc
   dsimp only at hc;subst hc
   replace e:=Qad e;obtain⟨e1,e⟩:=e
   split at e
   ·rename_i vs' hv;cases e;exact QaS.fn ho (ok.en e1) (QfC h1 hv)
   cases e
  cases e
 ·split at e
  ·rename_i x hc
   dsimp only at hc;subst hc
   split at e
   ·rename_i f' fs cs hx
    replace e:=Qad e;obtain⟨e1,e⟩:=e
    split at e
    ·rename_i vs' hv;cases e;exact QaS.clo ho (h1 _ _ hx) (ok.en e1) (QfC h1 hv)
    cases e
   cases e
  cases e
 ·split at e
  ·rename_i x name hc
   dsimp only at hc;subst hc
   split at e
   ·rename_i t u hx
    replace e:=Qad e;obtain⟨e1,e⟩:=e
    split at e
    ·rename_i vs' hv;cases e;exact QaS.meth (r:=u) ho (h1 _ _ hx) hφ (ok.en e1) (QfC h1 hv)
    cases e
   cases e
  cases e
 split at e
 ·rename_i x name hc
  dsimp only at hc;subst hc
  split at e
  ·rename_i t b off hx
   split at e
   ·rename_i cs hb
    split at e
    ·rename_i r hr0
     replace e:=Qad e;obtain⟨e1,e⟩:=e
     split at e
     ·rename_i vs' hv;cases e;exact QaS.methV ho (h1 _ _ hx) hφ.1 hφ.2.1 hφ.2.2 (h2 _ _ hb) hr0 (ok.en e1) (QfC h1 hv)
     cases e
    cases e
   cases e
  cases e
 cases e
theorem QBL {bk:Nat->Option Nat}{hp hp':Nat->Option Ob}(h:∀b u,hp b=some u->hp' b=some u):∀{M:List (Nat×Nat)} {l:List (Nat×Ob)},QiH bk hp M=some l->QiH bk hp' M=some l:=by
 intro M
 induction M with
 | nil=>intro l e;exact e
 | cons p M ih=>
  obtain⟨d,s⟩:=p
  intro l e
  rw [QiH]at e ⊢
  split at e
  ·rename_i ob hob
   split at e
   ·rename_i ob' hob'
    split at e
    ·rename_i l' hl
     simp only [h _ _ hob,hob',ih hl];exact e
    cases e
   cases e
  cases e
theorem QA1 {σ:St}{M N:List (Nat×Nat)}{dead:List Nat}{outs:List (Nat×Ob)}(h:QdS ⟨[],N.map fun p=>(p.1,Ob.itr0)⟩ M N dead outs=true):QdS σ M N dead outs=true:=by
 simp only [QdS,QB,Q9]at h ⊢
 obtain⟨⟨h1,h2⟩,h3⟩:=h
 refine⟨⟨h1,h2⟩,fun p hp=>⟨⟨?_,(h3 p hp).1.2⟩,(h3 p hp).2⟩⟩
 have hn:∀{l:List (Nat×Nat)},p∈l->(look (l.map fun p=>(p.1,Ob.itr0)) p.1).isNone=false:=by
  intro l hp
  induction l with
  | nil=>cases hp
  | cons q l ih=>
   show(look ((q.1,Ob.itr0)::l.map fun p=>(p.1,Ob.itr0)) p.1).isNone=false
   by_cases e:q.1=p.1
   ·rw [e,Qv];rfl
   rw [Qt _ _ e]
   refine ih ?_
   rcases Qbb.1 hp with h | h
   ·exact absurd (congrArg Prod.fst h).symm e
   exact h
 have h4:=(h3 p hp).1.1
 rw [hn hp,Bool.or_false]at h4
 rw [h4];rfl
theorem QsM {σ:St}(dead:List Nat):∀(l:List (Nat×Ob)),(σ.killL dead).sets l=σ.after dead l:=by
 intro l
 induction l with
 | nil=>rfl
 | cons p l ih=>rw [St.sets,ih];rfl
def QA2 (hp:Nat->Option Ob)(hsN:List (Nat×Ob)):List Nat->Prop
 | []=>True
 | b::r=>hp b=look hsN b/\QA2 hp hsN r
theorem QBM {hp:Nat->Option Ob}{hsN:List (Nat×Ob)}:∀{l:List Nat},QA2 hp hsN l->∀b,Q6 l b=true->hp b=look hsN b:=by
 intro l
 induction l with
 | nil=>intro _ b h;cases h
 | cons a l ih=>
  intro h b hb
  rw [Q6]at hb
  cases e:Nat.beq a b with
  | true=>rw [<-QaD e];exact h.1
  | false=>rw [e]at hb;exact ih h.2 b (by simpa using hb)
theorem QAh {same:List Nat}:∀{l:List (Nat×Ob)} {b:Nat},look (l.filter fun p=>!(Q6 same p.1)) b=if Q6 same b=true then none else look l b:=by
 intro l
 induction l with
 | nil=>intro b;simp [look]
 | cons p l ih=>
  intro b
  rw [QnA]
  by_cases e:p.1=b
  ·subst e
   cases h:Q6 same p.1 with
   | true=>
    simp only [QeQ,Bool.false_eq_true,if_false]
    rw [ih,h];simp
   | false=>
    simp only [Bool.not_false,if_true,Bool.false_eq_true,if_false]
    obtain⟨k,v⟩:=p
    rw [Qv,Qv]
  cases h:Q6 same p.1 with
  | true=>
   simp only [QeQ,Bool.false_eq_true,if_false]
   rw [ih,Qt (k:=p.1) p.2 l e]
  | false=>
   simp only [Bool.not_false,if_true]
   rw [Qt (k:=p.1) p.2 _ e,ih,Qt (k:=p.1) p.2 l e]
theorem R.congrHp {C:Ctx}{σ σ':St}(hf:σ'.fr=σ.fr)(hh:∀o,look σ'.hp o=look σ.hp o){a:Act}{w:World}(hR:R C σ a w):R C σ' a w:=by
 obtain⟨φ,h⟩:=hR
 exact⟨φ,h.os,h.tape,h.output,h.size,h.kept,h.inj,fun o B hB=>by rw [hh];exact h.dom o B hB,h.lt,h.new,⟨h.stay.1,fun o ob B h1 h2 h3=>h.stay.2 o ob B h1 (by rw [<-hh];exact h2) h3⟩,h.tmps,h.defers,fun t v hv=>h.frame t v (by rw [<-hf];exact hv),fun o ob hob=>h.heap o ob (by rw [<-hh];exact hob)⟩
def mu1 (P:Program)(C:Ctx)(T:Tab)(n:Nat)(md:MD)(o:Oper)(f:Operand->Option V)(hp:Nat->Option Ob):Option (Mut×Option Prop):=match md with
 | .cm en M N dead ms outs r same=>match o.dst with
  | some d=>match o.op with
   | .call c=>bif QdS ⟨[],N.map fun p=>(p.1,Ob.itr0)⟩ M N dead outs&&Qhg (M.map Prod.fst)&&Qhg (N.map Prod.fst)&&Nat.ble (d+1) n then match QCL P T f hp c en with
    | some (g,vs,ψ)=>match Qmr (bkM M) ms vs with
     | some us=>match QiH (bkM M) hp M with
      | some hsC=>match QiH (bkM N) (look outs) N with
       | some hsN=>match trV (bkM N) r with
        | some r'=>match same with
         | []=>some (⟨dead,hsN,some (d,r')⟩,some (ψ/\Qc P g us hsC (Gives r outs)))
         | _=>match dead with
          | []=>some (⟨[],hsN.filter (fun p=>!(Q6 same p.1)),some (d,r')⟩,some ((ψ/\Qc P g us hsC (Gives r outs))/\QA2 hp hsN same))
          | _=>none
        | none=>none
       | none=>none
      | none=>none
     | none=>none
    | none=>none
    else none
   | _=>none
  | none=>none
 | .any M=>some (M,some (∀σ:St,(∀x u,f x=some u->σ.opd x=some u)->(∀b u,hp b=some u->look σ.hp b=some u)->Stp P C o σ (M.run σ)))
 | .s=>match o.dst with
  | some d=>match o.op with
   | .assign x=>match f x with
    | some v=>bif Nat.ble (d+1) n then some (⟨[],[],some (d,v)⟩,none)else none
    | none=>none
   | .move x=>match f x with
    | some v=>bif Nat.ble (d+1) n then some (⟨[],[],some (d,v)⟩,none)else none
    | none=>none
   | _=>none
  | none=>match o.op with
   | .store Tx x y=>match f x with
    | some (.loc b i off)=>match f y with
     | some v=>match hp b with
      | some (.var cs)=>match i with
       | 0=>match look T.sz Tx with
        | some k=>bif v.isV&&Nat.beq v.cells.length k&&v.cells.all V.one&&Nat.ble (off+k) cs.length then some (⟨[],[(b,.var (Qcw cs off v.cells))],none⟩,none)else none
        | none=>none
       | _=>none
      | _=>none
     | none=>none
    | _=>none
   | _=>none
 | .st r rs'=>match o.dst with
  | some _=>none
  | none=>match o.op with
   | .store Tx x y=>match f x with
    | some (.loc b i off)=>match f y with
     | some v=>match hp b with
      | some (.arr z rs)=>match look T.sz Tx with
       | some k=>bif v.isV&&Nat.beq v.cells.length k&&v.cells.all V.one&&v.cells.all V.dat&&Nat.ble (off+k) z then some (⟨[],[(b,.arr z rs')],none⟩,some (rs[i]? = some r/\rs.set i (Qcw r off v.cells)=rs'))else none
       | none=>none
      | _=>none
     | none=>none
    | _=>none
   | _=>none
 | .app rs' m=>match o.dst with
  | some d=>match o.op with
   | .call c=>match c.callee with
    | .builtin .append=>match c.args.toList with
     | [x,y]=>match c.argTypes.toList with
      | [Tx,Ty]=>match f x with
       | some (.own b k)=>match f y with
        | some v=>match hp b with
         | some (.arr z rs)=>match look T.es Tx with
          | some (e,z',by_)=>match look T.zv e with
           | some zs=>bif (look T.es Ty).isSome&&Nat.ble (d+1) n&&!(Nat.ble 617 b)&&Nat.beq z z'&&Nat.beq zs.length z&&!(Nat.beq z 0)&&Nat.ble by_ 32768 then match v with
            | .sl z'' us=>bif Nat.beq z z'' then some (⟨[b],[(b,.arr z rs')],some (d,.own b m)⟩,some (rs.length=k/\decide (k+us.length<=4294967296)=true/\rs++us=rs'/\k+us.length=m))else none
            | _=>none
            else none
           | none=>none
          | none=>none
         | _=>none
        | none=>none
       | _=>none
      | _=>none
     | _=>none
    | _=>none
   | _=>none
  | none=>none
def QnF (obj:Bool)(o:Oper)(t:Nat)(fo:Bool)(ms:List Mut):List (It×Nat)->Nat->Option DF
 | (.add x fl _,j)::r,i+1=>bif Nat.beq x.d t&&QkW o i&&(bif fo then fl else bif obj then QrA x fl (ms.drop j)else alv x fl (ms.drop j))then some x else QnF obj o t fo ms r i
 | (.tn _,_)::r,i+1=>QnF obj o t fo ms r i
 | _,_=>none
def QpB (B:St)(fo:Bool)(ms:List Mut)(ri:List (It×Nat))(i:Nat)(o:Oper):Operand->Option V
 | .tmp t=>match look B.fr t with
  | some v=>some v
  | none=>match QnF false o t fo ms ri i with
   | some x=>some x.v
   | none=>none
 | x=>B.opd x
def QsN (B:St)(fo:Bool)(ms:List Mut)(ri:List (It×Nat))(i:Nat)(o:Oper)(b:Nat):Option Ob:=match look B.hp b with
 | some ob=>some ob
 | none=>match QnF true o b fo ms ri i with
  | some x=>x.ob
  | none=>none
structure Dr where
 ri:List (It×Nat)
 ms:List Mut
 B:St
 φ:Prop
def QgL (P:Program)(C:Ctx)(T:Tab)(n:Nat)(ops:Array Oper)(S:St):List Dw->List Oper->Nat->List (It×Nat)->List Mut->St->Prop->Option Dr
 | [],_,_,ri,ms,B,φ=>some ⟨ri,ms,B,φ⟩
 | .a h sv fl nf::ds,o::l,i,ri,ms,B,φ=>match Qfg ops o (fun t=>QpB (bif fl&&!nf then S else B) (fl&&!nf) ms ri i o (.tmp t))with
  | some true=>match o.dst with
   | some d=>bif Nat.ble (d+1) n then match ev1 P C T h o d (QpB (bif fl&&!nf then S else B) (fl&&!nf) ms ri i o) (QsN (bif fl&&!nf then S else B) (fl&&!nf) ms ri i o)with
    | some ⟨v,ob,q⟩=>match sv with
     | none=>QgL P C T n ops S ds l (i+1) ((.add ⟨d,v,ob⟩ fl nf,ms.length)::ri) ms B (Qpw φ q)
     | some (mm,u)=>QgL P C T n ops S ds l (i+1) ((.add ⟨d,u,ob⟩ fl nf,ms.length)::ri) ms B (Qpw φ q/\v.denil mm=u)
    | none=>none
    else none
   | none=>none
  | some false=>match o.dst with
   | some d=>bif Nat.ble (d+1) n then QgL P C T n ops S ds l (i+1) ((.add ⟨d,.lit undef,none⟩ fl nf,ms.length)::ri) ms B φ else none
   | none=>none
  | none=>none
 | .m md::ds,o::l,i,ri,ms,B,φ=>match Qfg ops o (fun t=>QpB B false ms ri i o (.tmp t))with
  | some true=>match mu1 P C T n md o (QpB B false ms ri i o) (QsN B false ms ri i o)with
   | some (M,q)=>QgL P C T n ops S ds l (i+1) ((.tn M,ms.length)::ri) (ms++[M]) (M.run B) (Qpw φ q)
   | none=>none
  | _=>none
 | _::_,[],_,_,_,_,_=>none
def QaE (ri:List (It×Nat)):List It:=(ri.map Prod.fst).reverse
section
variable {P:Program}{C:Ctx}{T:Tab}{Q:Exit->St->Prop}{n:Nat}{ops:Array Oper}{base S:St}{ks:List Fr}
theorem Qyu {md:MD}{o:Oper}{f:Operand->Option V}{hp:Nat->Option Ob}{M:Mut}{q:Option Prop}{σ:St}(ok:QdE P T)(hN:Qdg P C n)(e:mu1 P C T n md o f hp=some (M,q))(hq:match q with | none=>True | some p=>p)
  (h1:∀x u,f x=some u->σ.opd x=some u) (h2:∀b u,hp b=some u->look σ.hp b=some u):Stp P C o σ (M.run σ):=by
 have hn:=hN.n
 have hpg:=hN.g
 unfold mu1 at e
 cases md with
 | any M0=>cases e;exact hq σ h1 h2
 | cm en M0 N dead ms outs r same=>
  dsimp only at e
  split at e
  ·rename_i d hd
   split at e
   ·rename_i c ho
    replace e:=Qad e;obtain⟨e1,e⟩:=e
    simp only [QB]at e1
    obtain⟨⟨⟨g1,g2⟩,g3⟩,g4⟩:=e1
    rw [<-hn]at g4
    have g1:=QA1 (σ:=σ) g1
    have g2:=QcP.1 g2
    have g3:=QcP.1 g3
    have inj:QhN M0=true/\QhN N=true:=by
     simp only [QdS,QB]at g1
     exact⟨g1.1.1.1,g1.1.1.2⟩
    have mM:∀a b,bkM M0 a=some b->look M0 b=some a:=fun a b h=>QbP inj.1 (Qgd h) g2
    have mN:∀a b,bkM N a=some b->look N b=some a:=fun a b h=>QbP inj.2 (Qgd h) g3
    split at e
    ·rename_i g vs ψ hent
     split at e
     ·rename_i us hus
      split at e
      ·rename_i hsC hC
       split at e
       ·rename_i hsN hN
        split at e
        ·rename_i r' hr
         have call:ψ/\Qc P g us hsC (Gives r outs)->Stp P C o σ ((σ.after dead hsN).put d r'):=fun hq=>
          Stp.callM (g:=false) (QA0 (C:=C) ok ho hent hq.1 h1 h2) hd g4 hpg g1 g2 (QiA mM hus) (Qdh mM (QBL h2 hC)) hq.2 (Qdh mN hN) (Ql8 mN hr)
         split at e
         ·cases e
          unfold Mut.run
          dsimp only
          rw [QsM];exact call hq
         split at e
         ·cases e
          obtain⟨hq1,hq2⟩:=hq
          intro a w hR K Q hK
          refine call hq1 a w hR K Q fun a' w' hR'=>hK a' w' (R.congrHp ?_ (fun o=>?_) hR')
          ·unfold Mut.run;dsimp only;rw [QsM];rfl
          unfold Mut.run;dsimp only;rw [QsM]
          show look (_++σ.hp) o=look (_++σ.hp) o
          rw [Qfo,Qfo,QAh]
          by_cases hm:Q6 same o=true
          ·rw [if_pos hm]
           have:=QBM hq2 o hm
           cases hl:look hsN o with
           | none=>rfl
           | some ob=>rw [hl]at this;exact h2 o ob this
          rw [if_neg hm]
         cases e
        cases e
       cases e
      cases e
     cases e
    cases e
   cases e
  cases e
 | s=>
  dsimp only at e
  split at e
  ·rename_i d hd
   split at e
   ·rename_i x ho
    split at e
    ·rename_i v hv
     replace e:=Qad e;obtain⟨e1,e⟩:=e
     rw [<-hn]at e1
     cases e;exact Stp.assign ho hd e1 (h1 _ _ hv)
    cases e
   ·rename_i x ho
    split at e
    ·rename_i v hv
     replace e:=Qad e;obtain⟨e1,e⟩:=e
     rw [<-hn]at e1
     cases e;exact Stp.move ho hd e1 (h1 _ _ hv)
    cases e
   cases e
  rename_i hd
  split at e
  ·rename_i Tx x y ho
   split at e
   ·rename_i b i off hx
    split at e
    ·rename_i v hv
     split at e
     ·rename_i cs hb
      split at e
      ·split at e
       ·rename_i k hk
        replace e:=Qad e;obtain⟨e2,e⟩:=e
        cases e
        simp only [QB]at e2
        obtain⟨⟨⟨a1,a2⟩,a3⟩,a4⟩:=e2
        exact Stp.storeL ho hd (h1 _ _ hx) (h2 _ _ hb) (h1 _ _ hv) (V.isV_or a1) (ok.sz hk) (QaD a2) a3 a4 rfl
       cases e
      cases e
     cases e
    cases e
   cases e
  cases e
 | st r rs'=>
  dsimp only at e
  split at e
  ·cases e
  rename_i hd
  split at e
  ·rename_i Tx x y ho
   split at e
   ·rename_i b i off hx
    split at e
    ·rename_i v hv
     split at e
     ·rename_i z rs hb
      split at e
      ·rename_i k hk
       replace e:=Qad e;obtain⟨e2,e⟩:=e
       cases e
       simp only [QB]at e2
       obtain⟨⟨⟨⟨a1,a2⟩,a3⟩,a4⟩,a5⟩:=e2
       exact Stp.storeA ho hd (h1 _ _ hx) (h2 _ _ hb) hq.1 (h1 _ _ hv) (V.isV_or a1) (ok.sz hk) (QaD a2) a3 a4 a5 hq.2
      cases e
     cases e
    cases e
   cases e
  cases e
 | app rs' m=>
  dsimp only at e
  split at e
  ·rename_i d hd
   split at e
   ·rename_i c ho
    obtain⟨ce,ags,ts⟩:=c
    split at e
    ·rename_i hce
     dsimp only at hce e;subst hce
     split at e
     ·rename_i x y hxy
      split at e
      ·rename_i Tx Ty hT
       split at e
       ·rename_i b k hx
        split at e
        ·rename_i v hv
         split at e
         ·rename_i z rs hb
          split at e
          ·rename_i et z' by_ hes
           split at e
           ·rename_i zs hz
            replace e:=Qad e;obtain⟨e1,e⟩:=e
            simp only [QB,QeP]at e1
            obtain⟨⟨⟨⟨⟨⟨a1,a2⟩,a3⟩,a4⟩,a5⟩,a6⟩,a7⟩:=e1
            have a4:=QaD a4;subst a4
            have a5:=QaD a5
            have a6:z≠0:=fun h0=>by rw [h0]at a6;cases a6
            rw [<-hn]at a2
            obtain⟨⟨e2,z2,by2⟩,hU⟩:∃q,Qas P Ty=some q:=by
             cases hl:look T.es Ty with
             | none=>rw [hl]at a1;cases a1
             | some q=>exact⟨q,ok.es hl⟩
            have ea:ags=#[x,y]:=by rw [<-QqA (xs:=ags),hxy]
            have et:ts=#[Tx,Ty]:=by rw [<-QqA (xs:=ts),hT]
            subst ea;subst et
            split at e
            ·rename_i z'' us
             replace e:=Qad e;obtain⟨e3,e⟩:=e
             have:=QaD e3;subst this
             cases e
             obtain⟨h4,h5,h6,h7⟩:=hq
             exact Stp.appS ho hd a2 (h1 _ _ hx) (h2 _ _ hb) a3 h4 (ok.es hes) hU (ok.zv hz) a5 a6 a7 h5 (h1 _ _ hv) h6 h7
            cases e
           cases e
          cases e
         cases e
        cases e
       cases e
      cases e
     cases e
    cases e
   cases e
  cases e
theorem Quf {obj:Bool}{o:Oper}{t:Nat}{fo:Bool}{ms:List Mut}:∀{ri:List (It×Nat)} {i:Nat} {x:DF},i=ri.length->QnF obj o t fo ms ri i=some x->
  ∃k fl nf j,ri.reverse[k]? = some (.add x fl nf,j)/\QkW o k=true/\x.d=t/\(bif fo then fl else bif obj then QrA x fl (ms.drop j)else alv x fl (ms.drop j))=true:=by
 intro ri
 induction ri with
 | nil=>intro i x hi h;subst hi;cases h
 | cons y ri ih=>
  intro i x hi h
  subst hi
  have up:∀{x:DF},(∃k fl nf j,ri.reverse[k]? = some (.add x fl nf,j)/\QkW o k=true/\x.d=t/\(bif fo then fl else bif obj then QrA x fl (ms.drop j)else alv x fl (ms.drop j))=true)->∃k fl nf j,(y::ri).reverse[k]? = some (.add x fl nf,j)/\QkW o k=true/\x.d=t/\(bif fo then fl else bif obj then QrA x fl (ms.drop j)else alv x fl (ms.drop j))=true:=by
   rintro x ⟨k,fl,nf,j,h1,h2⟩
   refine⟨k,fl,nf,j,?_,h2⟩
   rw [List.reverse_cons,QbS (QX.1 h1).1];exact h1
  obtain⟨it,j⟩:=y
  cases it with
  | tn M=>rw [Qkg,QnF]at h;exact up (ih rfl h)
  | add z fl nf=>
   rw [Qkg,QnF]at h
   cases hb:(Nat.beq z.d t&&QkW o ri.length&&(bif fo then fl else bif obj then QrA z fl (ms.drop j)else alv z fl (ms.drop j)))with
   | true=>
    rw [hb]at h;cases h
    simp only [QB]at hb
    exact⟨ri.length,fl,nf,j,by simp,hb.1.2,QaD hb.1.1,hb.2⟩
   | false=>rw [hb]at h;exact up (ih rfl h)
theorem QsO {o:Oper}{f:Nat->Option V}{σ:St}{b:Bool}(hw:Qfg ops o f=some b)(hx:∀t u,f t=some u->look σ.fr t=some u):Qfg ops o (look σ.fr)=some b:=by
 unfold Qfg at hw ⊢
 cases hg:o.guard with
 | none=>simp only [hg]at hw ⊢;exact hw
 | some p=>
  obtain⟨j,t⟩:=p
  simp only [hg]at hw ⊢
  cases hj:ops[j]? with
  | none=>simp only [hj]at hw;cases hw
  | some oj=>
   simp only [hj]at hw ⊢
   cases hd:oj.dst with
   | none=>simp only [hd]at hw;cases hw
   | some d=>
    simp only [hd]at hw ⊢
    cases hf:f d with
    | none=>simp only [hf]at hw;cases hw
    | some v=>
     have:=hx d v hf
     simp only [hf]at hw
     simp only [this]
     exact hw
theorem QbI.want {o:Oper}{σ σ':St}(h:Qfg ops o (look σ.fr)=some true)(hs:Stp P C o σ σ'):QbI P C ops o σ σ':=by
 rcases QnP h with⟨hg,_⟩|⟨j,t,d',hg,hj,⟨u,hu,hb⟩|⟨_,hb⟩⟩
 ·exact QbI.run hg hs
 ·exact QbI.runG hg hj hu (by simpa using hb.symm) hs
 cases hb
theorem QbI.unwant {o:Oper}{σ:St}{d:Nat}(h:Qfg ops o (look σ.fr)=some false)(hd:o.dst=some d)(hn:Nat.ble (d+1) C.n=true):QbI P C ops o σ (σ.put d (.lit undef)):=by
 rcases QnP h with⟨_,hb⟩|⟨j,t,d',hg,hj,⟨u,hu,hb⟩|⟨hu,_⟩⟩
 ·cases hb
 ·have:u=!t:=by cases u<;>cases t<;>first | rfl | cases hb
  exact QbI.pass hg hj hu this hd hn
 exact QbI.passU hg hj hu hd hn
theorem QxW (ok:QdE P T)(hN:Qdg P C n){D:Dr}:∀(ds:List Dw) {l:List Oper} {i:Nat} {ri:List (It×Nat)} {ms:List Mut} {B:St} {φ:Prop},QgL P C T n ops S ds l i ri ms B φ=some D->i=ri.length->l=ops.toList.drop i->ms=QS (QaE ri)->B=bof base ms->
  (∀k it j,ri.reverse[k]? = some (it,j)->j=j0 (QaE ri) k)->D.φ->
  φ/\D.ri.length=i+ds.length/\(∃r,QaE D.ri=QaE ri++r)/\D.ms=QS (QaE D.ri)/\D.B=bof base D.ms/\(∀k it j,D.ri.reverse[k]? = some (it,j)->j=j0 (QaE D.ri) k)/\
   ∀k o it,i<=k->ops[k]? = some o->(QaE D.ri)[k]? = some it->QrR P C ops base S (QaE D.ri) k o it:=by
 have hn:=hN.n
 intro ds
 induction ds with
 | nil=>
  intro l i ri ms B φ h hi hl hms hB hj hφ
  cases h
  refine⟨hφ,by simp [hi],⟨[],by simp⟩,hms,hB,hj,fun k o it hk ho hit=>?_⟩
  have:=(QX.1 hit).1
  simp [QaE]at this;omega
 | cons d ds ih=>
  intro l i ri ms B φ h hi hl hms hB hj hφ
  cases l with
  | nil=>cases d<;>cases h
  | cons o l=>
   have ho:ops[i]? = some o:=by
    have:=congrArg (fun x=>x[0]?) hl
    simpa using this.symm
   have hl':l=ops.toList.drop (i+1):=by
    have:=congrArg List.tail hl
    simpa using this
   have hlen:(QaE ri).length=i:=by simp [QaE,hi]
   have grow:∀(it:It) (φ0:Prop) (ms':List Mut) (B':St),ms'=QS (QaE ri++[it])->B'=bof base ms'->QgL P C T n ops S ds l (i+1) ((it,ms.length)::ri) ms' B' φ0=some D->
     (φ0->φ/\∀its:List It,(∃r,its=QaE ri++(it::r))->QrR P C ops base S its i o it)->
     φ/\D.ri.length=i+(ds.length+1)/\(∃r,QaE D.ri=QaE ri++r)/\D.ms=QS (QaE D.ri)/\D.B=bof base D.ms/\(∀k it j,D.ri.reverse[k]? = some (it,j)->j=j0 (QaE D.ri) k)/\
      ∀k o it,i<=k->ops[k]? = some o->(QaE D.ri)[k]? = some it->QrR P C ops base S (QaE D.ri) k o it:=by
    intro it φ0 ms' B' hms' hB' h hstep
    have hio:QaE ((it,ms.length)::ri)=QaE ri++[it]:=by simp [QaE]
    obtain⟨h1,h2,⟨r,h3⟩,h4,h5,h6,h7⟩:=ih h (by simp [hi]) hl' (by rw [hio];exact hms') hB' (fun k it' j hk=>by
     rw [hio]
     rw [List.reverse_cons]at hk
     by_cases hlt:k<ri.length
     ·rw [QbS (by simpa using hlt)]at hk
      rw [hj k it' j hk];unfold j0
      rw [Qy6 (by omega)]
     rw [QbY (by simp;omega)]at hk
     have:k-ri.reverse.length=0:=by
      have:=(QX.1 hk).1;simpa using this
     rw [this]at hk;simp at hk
     obtain⟨rfl,rfl⟩:=hk
     have hk2:k=ri.length:=by simp at this;omega
     unfold j0
     rw [Qy6 (by omega),hms,Qmj (by omega)]) hφ
    obtain⟨h8,h9⟩:=hstep h1
    rw [hio,QhM]at h3
    refine⟨h8,by omega,⟨_,h3⟩,h4,h5,h6,fun k o' it' hk ho' hit=>?_⟩
    rcases QeF i k with hlt | hge
    ·exact h7 k o' it' hlt ho' hit
    have:k=i:=by omega
    subst this
    rw [ho]at ho';cases ho'
    have:(QaE D.ri)[k]? = some it:=by rw [h3,QbY (by omega),hlen];simp
    rw [this]at hit;cases hit
    exact h9 _ ⟨r,h3⟩
   have place:∀{its:List It} {it:It} {r:List It},its=QaE ri++(it::r)->(QS its).take (j0 its i)=ms/\∀k it' j,ri.reverse[k]? = some (it',j)->its[k]? = some it'/\j=j0 its k:=by
    intro its it r hits
    have h1:its.take i=QaE ri:=by rw [hits,Qy6 (by omega),Qmj (by omega)]
    refine⟨?_,fun k it' j hk=>⟨?_,?_⟩⟩
    ·unfold j0;rw [h1,hits,Qge,<-hms];simp
    ·have hk2:(QaE ri)[k]? = some it':=by simp only [QaE,<-List.map_reverse,Qau,hk,Qgr]
     rw [hits,QbS (QX.1 hk2).1];exact hk2
    have hkl:=(QX.1 hk).1
    rw [hj k it' j hk];unfold j0
    rw [hits,Qy6 (by simp at hkl;omega)]
   have envB:∀{its:List It} {it:It} {r:List It} {σ:St},its=QaE ri++(it::r)->Sub σ B->(∀k y fl nf,its[k]? = some (.add y fl nf)->QkW o k=true->Qmt σ y fl (ms.drop (j0 its k)))->
     (∀x u,QpB B false ms ri i o x=some u->σ.opd x=some u)/\∀b u,QsN B false ms ri i o b=some u->look σ.hp b=some u:=by
    intro its it r σ hits hsub hdep
    have dep:∀{t:Nat} {x:DF},QnF false o t false ms ri i=some x->look σ.fr x.d=some x.v/\x.d=t:=fun hf=>by
     obtain⟨k,fl,nf,j,g1,g2,g3,g4⟩:=Quf hi hf
     obtain⟨g5,g6⟩:=(place hits).2 k _ j g1
     exact⟨(hdep k _ fl nf g5 g2).1 (by rw [<-g6];exact g4),g3⟩
    have depO:∀{t:Nat} {x:DF},QnF true o t false ms ri i=some x->(∀ob,x.ob=some ob->look σ.hp x.d=some ob)/\x.d=t:=fun hf=>by
     obtain⟨k,fl,nf,j,g1,g2,g3,g4⟩:=Quf hi hf
     obtain⟨g5,g6⟩:=(place hits).2 k _ j g1
     exact⟨(hdep k _ fl nf g5 g2).2 (by rw [<-g6];exact g4),g3⟩
    refine⟨fun x u hx=>?_,fun b u hx=>?_⟩
    ·cases x with
     | tmp t=>
      simp only [QpB]at hx
      split at hx
      ·rename_i v hv;cases hx;exact hsub.1 _ _ hv
      split at hx
      ·rename_i y hy;cases hx;obtain⟨g1,g2⟩:=dep hy;subst g2;exact g1
      cases hx
     | const v=>exact hx
     | global g=>exact hx
     | func f=>exact hx
    simp only [QsN]at hx
    split at hx
    ·rename_i v hv;cases hx;exact hsub.2 _ _ hv
    split at hx
    ·rename_i y hy;obtain⟨g1,g2⟩:=depO hy;subst g2;exact g1 _ hx
    cases hx
   have envS:∀{its:List It} {it:It} {r:List It} {σ:St},its=QaE ri++(it::r)->Sub σ S->(∀k y nf,its[k]? = some (.add y true nf)->QkW o k=true->QsA σ y)->
     (∀x u,QpB S true ms ri i o x=some u->σ.opd x=some u)/\∀b u,QsN S true ms ri i o b=some u->look σ.hp b=some u:=by
    intro its it r σ hits hsub hdep
    have dep:∀{b:Bool} {t:Nat} {x:DF},QnF b o t true ms ri i=some x->QsA σ x/\x.d=t:=fun hf=>by
     obtain⟨k,fl,nf,j,g1,g2,g3,g4⟩:=Quf hi hf
     obtain⟨g5,g6⟩:=(place hits).2 k _ j g1
     have:fl=true:=g4
     subst this
     exact⟨hdep k _ nf g5 g2,g3⟩
    refine⟨fun x u hx=>?_,fun b u hx=>?_⟩
    ·cases x with
     | tmp t=>
      simp only [QpB]at hx
      split at hx
      ·rename_i v hv;cases hx;exact hsub.1 _ _ hv
      split at hx
      ·rename_i y hy;cases hx;obtain⟨g1,g2⟩:=dep hy;subst g2;exact g1.1
      cases hx
     | const v=>exact hx
     | global g=>exact hx
     | func f=>exact hx
    simp only [QsN]at hx
    split at hx
    ·rename_i v hv;cases hx;exact hsub.2 _ _ hv
    split at hx
    ·rename_i y hy;obtain⟨g1,g2⟩:=dep hy;subst g2;exact g1.2 _ hx
    cases hx
   have addOK:∀{x:DF} {fl nf:Bool} {φ0:Prop},QgL P C T n ops S ds l (i+1) ((.add x fl nf,ms.length)::ri) ms B φ0=some D->
     (φ0->φ/\∀σ,(∀y u,QpB (bif fl&&!nf then S else B) (fl&&!nf) ms ri i o y=some u->σ.opd y=some u)->(∀b u,QsN (bif fl&&!nf then S else B) (fl&&!nf) ms ri i o b=some u->look σ.hp b=some u)->(x.ob.isSome=true->look σ.hp x.d=none)->QbI P C ops o σ (σ.addF x))->
     φ/\D.ri.length=i+(ds.length+1)/\(∃r,QaE D.ri=QaE ri++r)/\D.ms=QS (QaE D.ri)/\D.B=bof base D.ms/\(∀k it j,D.ri.reverse[k]? = some (it,j)->j=j0 (QaE D.ri) k)/\
      ∀k o it,i<=k->ops[k]? = some o->(QaE D.ri)[k]? = some it->QrR P C ops base S (QaE D.ri) k o it:=by
    intro x fl nf φ0 h hs
    refine grow (.add x fl nf) φ0 ms B (by rw [Qge];simp [QS,hms]) hB h fun h0=>?_
    obtain⟨g1,g2⟩:=hs h0
    refine⟨g1,fun its ⟨r,hits⟩=>?_⟩
    dsimp only [QrR]
    generalize (fl&&!nf)=ff at g2 ⊢
    cases ff with
    | true=>exact fun σ hsub hdep hf=>let ⟨a,b⟩:=envS hits hsub hdep;g2 σ a b hf
    | false=>
     intro σ hsub hdep hf
     rw [(place hits).1,<-hB]at hsub
     rw [(place hits).1]at hdep
     obtain⟨a,b⟩:=envB hits hsub hdep
     exact g2 σ a b hf
   cases d with
   | a h0 sv fl nf=>
    rw [QgL]at h
    split at h
    ·rename_i hw
     split at h
     ·rename_i dd hd
      replace h:=Qad h;obtain⟨e1,h⟩:=h
      rw [<-hn]at e1
      have stp:∀{v:V} {ob:Option Ob} {q:Option Prop} {σ:St},ev1 P C T h0 o dd (QpB (bif fl&&!nf then S else B) (fl&&!nf) ms ri i o) (QsN (bif fl&&!nf then S else B) (fl&&!nf) ms ri i o)=some ⟨v,ob,q⟩->Rs.holds ⟨v,ob,q⟩->
        (∀x u,QpB (bif fl&&!nf then S else B) (fl&&!nf) ms ri i o x=some u->σ.opd x=some u)->(∀b u,QsN (bif fl&&!nf then S else B) (fl&&!nf) ms ri i o b=some u->look σ.hp b=some u)->(ob.isSome=true->look σ.hp dd=none)->QbI P C ops o σ (σ.addF ⟨dd,v,ob⟩):=
       fun he hq hx hh hf=>QbI.want (QsO hw fun t u ht=>hx (.tmp t) u ht) (Qt9 ok hd e1 hN.g hx hh he hq hf)
      split at h
      ·rename_i v ob q he
       split at h
       ·exact addOK h fun h1=>let ⟨a,b⟩:=Qpx h1;⟨a,fun σ hx hh hf=>stp he b hx hh hf⟩
       refine addOK h fun h1=>?_
       obtain⟨h1,h2⟩:=h1
       subst h2
       obtain⟨a,b⟩:=Qpx h1
       exact⟨a,fun σ hx hh hf=>(stp he b hx hh hf).denil⟩
      cases h
     cases h
    ·rename_i hw
     split at h
     ·rename_i dd hd
      replace h:=Qad h;obtain⟨e1,h⟩:=h
      rw [<-hn]at e1
      exact addOK h fun h1=>⟨h1,fun σ hx hh hf=>QbI.unwant (QsO hw fun t u ht=>hx (.tmp t) u ht) hd e1⟩
     cases h
    cases h
   | m md=>
    rw [QgL]at h
    split at h
    ·rename_i hw
     split at h
     ·rename_i M q he
      refine grow (.tn M) (Qpw φ q) (ms++[M]) (M.run B) (by rw [Qge];simp [QS,hms]) (by rw [QwZ,<-hB];rfl) h fun h1=>?_
      obtain⟨a,b⟩:=Qpx (v:=.J) (ob:=none) h1
      refine⟨a,fun its ⟨r,hits⟩ σ hsub hdep=>?_⟩
      rw [(place hits).1,<-hB]at hsub
      rw [(place hits).1]at hdep
      obtain⟨hx,hh⟩:=envB hits hsub hdep
      refine QbI.want (QsO hw fun t u ht=>hx (.tmp t) u ht) (Qyu ok hN he ?_ hx hh)
      cases q with
      | none=>trivial
      | some p=>exact b
     cases h
    cases h
def Qmu (ms:List Mut):List (It×Nat)->List (Nat×V)
 | []=>[]
 | (.add x fl _,j)::r=>bif alv x fl (ms.drop j)then(x.d,x.v)::Qmu ms r else Qmu ms r
 | (.tn _,_)::r=>Qmu ms r
def Qk9 (ms:List Mut):List (It×Nat)->List (Nat×Ob)
 | []=>[]
 | (.add x fl _,j)::r=>bif QrA x fl (ms.drop j)then(match x.ob with | some ob=>(x.d,ob)::Qk9 ms r | none=>Qk9 ms r)else Qk9 ms r
 | (.tn _,_)::r=>Qk9 ms r
def okV (ops:Array Oper)(base S:St)(D:Dr):Bool:=QxO ops&&QCH ops (QaE D.ri)&&Qzx base (QaE D.ri)&&QxU ops D.ms (QaE D.ri)&&QxV ops (QaE D.ri) D.ms S&&QAW ops (QaE D.ri)
theorem QsP {α:Type}{l:List (Nat×α)}:∀{ts:List Nat} {r:List (Nat×α)},QhO l ts=some r->∀p∈r,look l p.1=some p.2:=by
 intro ts
 induction ts with
 | nil=>intro r h p hp;cases h;cases hp
 | cons t ts ih=>
  intro r h p hp
  rw [QhO]at h
  split at h
  ·rename_i v hv
   split at h
   ·rename_i r' hr
    cases h
    rcases Qbb.1 hp with rfl | hp
    ·exact hv
    exact ih hr p hp
   cases h
  cases h
theorem QCM {fr:List (Nat×V)}:∀{l:List (Nat×V)},(∀p∈l,look fr p.1=some p.2)->QiX fr l:=by
 intro l
 induction l with
 | nil=>intro _;trivial
 | cons p l ih=>intro h;exact⟨h p Qb9,ih fun q hq=>h q (QcN _ hq)⟩
theorem QCN {fr:List (Nat×Ob)}:∀{l:List (Nat×Ob)},(∀p∈l,look fr p.1=some p.2)->Qg0 fr l:=by
 intro l
 induction l with
 | nil=>intro _;trivial
 | cons p l ih=>intro h;exact⟨h p Qb9,ih fun q hq=>h q (QcN _ hq)⟩
theorem AK.draw2 {id:Nat}(ok:QdE P T)(hN:Qdg P C n)(hmix:P.follows .mixedOrders=true)(ds:List Dw)(sts sos ts os:List Nat){sf:List (Nat×V)}{sh:List (Nat×Ob)}{fr:List (Nat×V)}{hp:List (Nat×Ob)}{ri:List (It×Nat)}{ms:List Mut}{B:St}{φ:Prop}
  (hS1:QhO base.fr sts=some sf) (hS2:QhO base.hp sos=some sh)
  (e:QgL P C T n ops ⟨sf,sh⟩ ds ops.toList 0 [] [] base True=some ⟨ri,ms,B,φ⟩) (hφ:φ) (hl:ds.length=ops.size) (hk:okV ops base ⟨sf,sh⟩ ⟨ri,ms,B,φ⟩=true)
  (hf1:QhO (Qmu ms ri++B.fr) ts=some fr) (hf2:QhO (Qk9 ms ri++B.hp) os=some hp) (hc:St.closed ⟨fr,hp⟩=true) (k:AK P C Q (.x .normal) ks ⟨fr,hp⟩):AK P C Q (.c (.region id ops true)) ks base:=by
 have hn:=hN.n
 obtain⟨D,hD⟩:∃D:Dr,D=⟨ri,ms,B,φ⟩:=⟨_,rfl⟩
 rw [<-hD]at e hk
 have hφ:D.φ:=by rw [hD];exact hφ
 have hf1:QhO (Qmu D.ms D.ri++D.B.fr) ts=some fr:=by rw [hD];exact hf1
 have hf2:QhO (Qk9 D.ms D.ri++D.B.hp) os=some hp:=by rw [hD];exact hf2
 clear hD
 simp only [okV,QB]at hk
 obtain⟨⟨⟨⟨⟨k1,k2⟩,k3⟩,k4⟩,k5⟩,k6⟩:=hk
 obtain⟨_,h2,_,h4,h5,h6,h7⟩:=QxW (base:=base) ok hN ds e rfl rfl rfl rfl (fun k it j h=>by simp at h) hφ
 have hlen:(QaE D.ri).length=ops.size:=by simp [QaE];omega
 rw [h4]at k4 k5
 have hS:Sub base ⟨sf,sh⟩:=⟨fun t v h=>by
  have:=QsP hS1 (t,v) (Qa9 h);exact this,fun p ob h=>by have:=QsP hS2 (p,ob) (Qa9 h);exact this⟩
 refine AK.drawV hmix hlen k1 k2 k3 k6 k4 k5 hS (fun i o it ho hit=>h7 i o it (Nat.zero_le _) ho hit) fun σ hsub hadd=>?_
 rw [<-h4,<-h5]at hsub
 have hadd':∀x fl nf j,(It.add x fl nf,j)∈D.ri->Qmt σ x fl (D.ms.drop j):=by
  intro x fl nf j hm
  obtain⟨i,hi⟩:=List.getElem?_of_mem (List.mem_reverse.2 hm)
  have hj:=h6 i _ j hi
  rw [hj,h4]
  refine hadd i x fl nf ?_
  simp only [QaE,<-List.map_reverse,Qau,hi,Qgr]
 have frOK:∀{ri:List (It×Nat)},(∀q∈ri,q∈D.ri)->∀{t:Nat} {v:V},look (Qmu D.ms ri) t=some v->look σ.fr t=some v:=by
  intro ri
  induction ri with
  | nil=>intro _ t v h;cases h
  | cons y ri ih=>
   intro hm t v h
   have hm':=fun q hq=>hm q (QcN _ hq)
   obtain⟨it,j⟩:=y
   cases it with
   | tn M=>exact ih hm' h
   | add x fl nf=>
    rw [Qmu]at h
    cases hal:alv x fl (D.ms.drop j)with
    | false=>rw [hal]at h;exact ih hm' h
    | true=>
     rw [hal]at h
     have h:look ((x.d,x.v)::Qmu D.ms ri) t=some v:=h
     by_cases e:x.d=t
     ·subst e;rw [Qv]at h;cases h;exact(hadd' x fl nf j (hm _ Qb9)).1 hal
     rw [Qt _ _ e]at h;exact ih hm' h
 have hpOK:∀{ri:List (It×Nat)},(∀q∈ri,q∈D.ri)->∀{t:Nat} {v:Ob},look (Qk9 D.ms ri) t=some v->look σ.hp t=some v:=by
  intro ri
  induction ri with
  | nil=>intro _ t v h;cases h
  | cons y ri ih=>
   intro hm t v h
   have hm':=fun q hq=>hm q (QcN _ hq)
   obtain⟨it,j⟩:=y
   cases it with
   | tn M=>exact ih hm' h
   | add x fl nf=>
    rw [Qk9]at h
    cases hal:QrA x fl (D.ms.drop j)with
    | false=>rw [hal]at h;exact ih hm' h
    | true=>
     rw [hal]at h
     cases hob:x.ob with
     | none=>rw [hob]at h;exact ih hm' h
     | some ob=>
      rw [hob]at h
      have h:look ((x.d,ob)::Qk9 D.ms ri) t=some v:=h
      by_cases e:x.d=t
      ·subst e;rw [Qv]at h;cases h;exact(hadd' x fl nf j (hm _ Qb9)).2 hal _ hob
      rw [Qt _ _ e]at h;exact ih hm' h
 refine AK.weaken (fun a w hR=>hR.to (QCM fun p hp'=>?_) (QCN fun p hp'=>?_) hc) k
 ·have:=QsP hf1 p hp'
  rw [Qfo]at this
  cases hl:look (Qmu D.ms D.ri) p.1 with
  | some v=>rw [hl]at this;cases this;exact frOK (fun _ h=>h) hl
  | none=>rw [hl]at this;exact hsub.1 _ _ this
 have:=QsP hf2 p hp'
 rw [Qfo]at this
 cases hl:look (Qk9 D.ms D.ri) p.1 with
 | some v=>rw [hl]at this;cases this;exact hpOK (fun _ h=>h) hl
 | none=>rw [hl]at this;exact hsub.2 _ _ this
end
theorem Stp.callSame {P:Program}{C:Ctx}{T:Tab}{n:Nat}{o:Oper}{md:MD}{f:Operand->Option V}{hp:Nat->Option Ob}{σ:St}{d:Nat}{v:V}{q:Prop}(ok:QdE P T)(hN:Qdg P C n)(h1:∀x u,f x=some u->σ.opd x=some u)(h2:∀b u,hp b=some u->look σ.hp b=some u)
  (e:mu1 P C T n md o f hp=some (⟨[],[],some (d,v)⟩,some q)) (hq:q):Stp P C o σ (σ.addF ⟨d,v,none⟩):=Qyu (q:=some q) ok hN e hq h1 h2
theorem QsQ {α:Type}{f:α->List V}{l:List α}{k h:Nat}:((l.map f).drop k).take (h-k)=((l.drop k).take (h-k)).map f:=by simp
end Go.Vm
namespace Go.Vm
open Go Go.RowKit
section
variable {P:Program}{C:Ctx}{σ:St}{o:Oper}
def QxX (P:Program)(T:TypeId)(k:IntKind):Bool:=match P.underlying T with
 | some (.int q)=>ikB q k
 | _=>false
theorem Qzz {T:TypeId}{k:IntKind}(h:QxX P T k=true):P.underlying T=some (.int k):=by
 unfold QxX at h
 split at h
 ·rename_i q hq;rw [hq,Qzl h]
 cases h
theorem Stp.convI {S T d:Nat}{x:Operand}{k k':IntKind}{n:Int}(ho:o.op=.convert S T x)(hd:o.dst=some d)(hn:Nat.ble (d+1) C.n=true)(hx:σ.opd x=some (.i k' n))(hs:QxX P S k'=true)(hT:QxX P T k=true):Stp P C o σ (σ.put d (.i k (k.wrap n))):=by
 refine Stp.same hd hn fun φ a w hr=>⟨.int k (k.wrap n),?_,.dat (.i _ _)⟩
 simp [execOp,ho,(hr.opd hx).i_inv,convert,run_underlying (Qzz hs),run_underlying (Qzz hT),Conv.intToInt]
def QA3 (k:IntKind)(m n:Int):Int:=k.wrap (m*2 ^ (min n.toNat k.bits))
def Qeg (k:IntKind)(m n:Int):Int:=m.fdiv (2 ^ (min n.toNat k.bits))
theorem Stp.shl {x y:Operand}{T U d:Nat}{k k':IntKind}{m n:Int}(ho:o.op=.binOp .shl T x y U)(hd:o.dst=some d)(hn:Nat.ble (d+1) C.n=true)(hx:σ.opd x=some (.i k m))(hy:σ.opd y=some (.i k' n))(h0:0<=n):Stp P C o σ (σ.put d (.i k (QA3 k m n))):=by
 refine Stp.same hd hn fun φ a w hr=>⟨.int k _,?_,.dat (.i _ _)⟩
 have:¬n<0:=by omega
 simp [execOp,ho,(hr.opd hx).i_inv,(hr.opd hy).i_inv,eqGuard,binOp,Op.shift,this,QA3]
theorem Stp.shr {x y:Operand}{T U d:Nat}{k k':IntKind}{m n:Int}(ho:o.op=.binOp .shr T x y U)(hd:o.dst=some d)(hn:Nat.ble (d+1) C.n=true)(hx:σ.opd x=some (.i k m))(hy:σ.opd y=some (.i k' n))(h0:0<=n):Stp P C o σ (σ.put d (.i k (Qeg k m n))):=by
 refine Stp.same hd hn fun φ a w hr=>⟨.int k _,?_,.dat (.i _ _)⟩
 have:¬n<0:=by omega
 simp [execOp,ho,(hr.opd hx).i_inv,(hr.opd hy).i_inv,eqGuard,binOp,Op.shift,this,Qeg]
def QdK (k:IntKind)(m n:Int):Int:=k.wrap ((BitVec.ofInt k.bits m &&& BitVec.ofInt k.bits n).toNat:Int)
theorem Stp.andB {x y:Operand}{T U d:Nat}{k:IntKind}{m n:Int}(ho:o.op=.binOp .and T x y U)(hd:o.dst=some d)(hn:Nat.ble (d+1) C.n=true)(hx:σ.opd x=some (.i k m))(hy:σ.opd y=some (.i k n)):Stp P C o σ (σ.put d (.i k (QdK k m n))):=
 Stp.same hd hn fun φ a w hr=>⟨.int k _,by simp [execOp,ho,(hr.opd hx).i_inv,(hr.opd hy).i_inv,eqGuard,binOp,Op.intBits,QdK],.dat (.i _ _)⟩
def Qhj : List V->Option (List Value)
 | []=>some []
 | .i k n::r=>(Qhj r).map (.int k n::·)
 | .b x::r=>(Qhj r).map (.bool x::·)
 | .s x::r=>(Qhj r).map (.string x::·)
 | _=>none
theorem QBN {φ:Nat->Option Blk}{I:Nat->Prop}{w:World}:∀{cs:List V} {vs xs:List Value},Qhj cs=some vs->xs.length=cs.length->(∀(j:Nat) x v,xs[j]? = some x->cs[j]? = some v->Rep φ I w x v)->xs=vs:=by
 intro cs
 induction cs with
 | nil=>intro vs xs h hl _;cases h;exact List.eq_nil_of_length_eq_zero hl
 | cons c cs ih=>
  intro vs xs h hl hr
  cases xs with
  | nil=>cases hl
  | cons x xs=>
   have h0:=hr 0 x c rfl rfl
   have hi:∀{us:List Value},Qhj cs=some us->xs=us:=fun e=>ih e (by simpa using hl) fun j x v a b=>hr (j+1) x v a b
   cases c with
   | i k n=>simp only [Qhj,Qax]at h;obtain⟨us,e,rfl⟩:=h;rw [h0.i_inv,hi e]
   | b k=>simp only [Qhj,Qax]at h;obtain⟨us,e,rfl⟩:=h;rw [h0.b_inv,hi e]
   | s k=>simp only [Qhj,Qax]at h;obtain⟨us,e,rfl⟩:=h;rw [h0.s_inv,hi e]
   | _=>cases h
theorem Rep.aggVals {φ:Nat->Option Blk}{I:Nat->Prop}{w:World}{x:Value}{cs:List V}{vs:List Value}(h:Rep φ I w x (.agg cs))(hv:Qhj cs=some vs):x=.agg vs.toArray:=by
 obtain⟨xs,rfl,hs,hr⟩:=h.agg_inv
 have:=QBN (xs:=xs.toList) hv (by simpa using hs) fun j x v a b=>hr j x v (by simpa using a) b
 rw [<-this]
def EqT (P:Program)(T:TypeId)(vs us:List Value)(r:Bool):Prop:=P.eqGuardType P.depth T=false/\∀w,(Op.equalIn 10000 T (.agg vs.toArray) (.agg us.toArray)).run P w=.ok r w
theorem Stp.eqAgg {x y:Operand}{T U d:Nat}{cs ds:List V}{vs us:List Value}{r:Bool}(ho:o.op=.binOp .eql T x y U)(hd:o.dst=some d)(hn:Nat.ble (d+1) C.n=true)(hx:σ.opd x=some (.agg cs))(hy:σ.opd y=some (.agg ds))(hv:Qhj cs=some vs)(hu:Qhj ds=some us)(he:EqT P T vs us r):
  Stp P C o σ (σ.put d (.b r)):=by
 refine Stp.same hd hn fun φ a w hr=>⟨.bool r,?_,.dat (.b _)⟩
 have h1:=(hr.opd hx).aggVals hv
 have h2:=(hr.opd hy).aggVals hu
 have h3:=he.2 w
 simp only [execOp,ho,h1,h2,eqGuard,Sem.run_bind,run_program,Result.andThen_ok,he.1]
 simp [binOp,Op.equal,Op.maxDepth,h3,he.1]
theorem Stp.neAgg {x y:Operand}{T U d:Nat}{cs ds:List V}{vs us:List Value}{r:Bool}(ho:o.op=.binOp .neq T x y U)(hd:o.dst=some d)(hn:Nat.ble (d+1) C.n=true)(hx:σ.opd x=some (.agg cs))(hy:σ.opd y=some (.agg ds))(hv:Qhj cs=some vs)(hu:Qhj ds=some us)(he:EqT P T vs us r):
  Stp P C o σ (σ.put d (.b (!r))):=by
 refine Stp.same hd hn fun φ a w hr=>⟨.bool (!r),?_,.dat (.b _)⟩
 have h1:=(hr.opd hx).aggVals hv
 have h2:=(hr.opd hy).aggVals hu
 have h3:=he.2 w
 simp only [execOp,ho,h1,h2,eqGuard,Sem.run_bind,run_program,Result.andThen_ok,he.1]
 simp [binOp,Op.equal,Op.maxDepth,h3,he.1]
end
section
variable {P:Program}{C:Ctx}{σ:St}{Q:Exit->St->Prop}{ks:List Fr}{ops:Array Oper}{rest:List Oper}{o:Oper}
theorem AK.eqNil {x y:Operand}{T U d e z:Nat}{rows:List (List V)}(hg:o.guard=none)(ho:o.op=.binOp .eql T x y U)(hd:o.dst=some d)(hn:Nat.ble (d+1) C.n=true)(hx:σ.opd x=some (.sl z rows))(hy:σ.opd y=some (.lit (.slice none 0 0)))(hT:P.underlying T=some (.slice e))
  (h1:rows=[]->AK P C Q (.o ops rest) ks (σ.put d (.b true))) (h2:AK P C Q (.o ops rest) ks (σ.put d (.b false))):AK P C Q (.o ops (o::rest)) ks σ:=by
 intro a w hR
 obtain⟨φ,hr⟩:=hR
 have hyv:a.eval y=.slice none 0 0:=(hr.opd hy).lit_inv
 have run:∀p l c,a.eval x=.slice p l c->(execOp a.eval o).run P w=.ok (.value (.bool p.isNone)) w:=fun p l c e=>by
  simp [execOp,ho,e,hyv,eqGuard,binOp,run_equal_slice_nil w T _ p l c hT]
 have go:∀{v:Bool} {σ':St},(execOp a.eval o).run P w=.ok (.value (.bool v)) w->σ'=σ.put d (.b v)->AK P C Q (.o ops rest) ks σ'->wpListIn C.F 0 P ops (up C (unw P C Q ks)) (o::rest) a w:=fun {v σ'} e e2 k=>by
  have:Stp P C { o with op:=.move (.const (.bool v)) } σ (σ.put d (.b v)):=Stp.move rfl hd hn rfl
  simp only [wpListIn,Region.wanted,hg,if_true]
  refine⟨fun _ _=>trivial,?_⟩
  rw [QwO e,Oper.uponIn_value]
  subst e2
  refine k _ _ ⟨φ,?_⟩
  rw [hd]
  exact hr.put (Qag hn) (.dat (.b _))
 rcases(hr.opd hx).sl_inv with⟨p,c,he,h0⟩|⟨b,off,cap,he,_⟩
 ·cases p with
  | none=>exact go (run none 0 c he) rfl (h1 h0)
  | some p=>exact go (run (some p) 0 c he) rfl h2
 exact go (run _ _ _ he) rfl h2
end
section
variable {P:Program}{C:Ctx}{σ:St}{o:Oper}
theorem Stp.buildAny {T d e z by_ n:Nat}{parts:Array (Nat×Operand)}{zs vs:List V}{qs:List (Nat×V)}(ho:o.op=.buildSlice T n parts)(hd:o.dst=some d)(hn:Nat.ble (d+1) C.n=true)
  (hT:Qas P T=some (e,z,by_)) (hz:Qaz P e=some zs) (hzl:zs.length=z) (hz0:z≠0) (hbig:n*z<=16777216) (hq:σ.opds parts.toList=some qs) (hv:qs.all (fun q=>q.2.isV)=true)
  (hf:Qff (fun i=>some (i*z,z)) ((List.range (n*z)).map fun k=>zs.getD (k % z) .J) qs=some vs)
  (hfr:look σ.hp d=none):Stp P C o σ ((σ.set d (.var vs)).put d (.own d n)):=by
 refine Stp.val fun φ a w hr=>?_
 obtain⟨hu,i,hi,hi1,_⟩:=Qcp hT
 obtain⟨i',zv,hi',hz',rfl⟩:=QhG hz
 rw [hi]at hi';cases hi'
 have hzs:zv.cells.size=i.size:=by rw [hi1];simpa using hzl
 have hf0:=hf
 rw [<-hi1]at hf
 rw [<-Qsw zv.cells n i.size hzs (by omega)]at hf
 obtain⟨xs',h1,h2,h3⟩:=hr.fill hq hv hf
 refine⟨.slice (some ⟨w.heap.size,0,none⟩) n n,w.alloc (.cells xs' e),ext φ d ⟨w.heap.size,n,1,[],0⟩,?_,?_⟩
 ·have e2:(parts.map fun p=>(p.1,a.eval p.2)).toList=parts.toList.map fun p=>(p.1,a.eval p.2):=by simp
  have hb:¬(n*i.size > 2 ^ 24):=by rw [hi1];omega
  by_cases hn0:n*i.size=0
  ·have hn1:n=0:=by
    rw [hi1]at hn0
    rcases Nat.mul_eq_zero.1 hn0 with h | h
    ·exact h
    exact absurd h hz0
   subst hn1
   simp only [Qml]at h1
   rw [QxM,Array.map_empty]at h1
   simp only [execOp,ho,Instr.buildSlice,Sem.run_bind,run_underlying hu,Result.andThen_ok,sizeOf,typeInfo,run_program,hi,Sem.run_pure,Qml,if_true,e2,QxM,Array.map_empty]
   simp [h1,newRow]
  simp only [execOp,ho,Instr.buildSlice,Sem.run_bind,run_underlying hu,Result.andThen_ok,sizeOf,typeInfo,run_program,hi,Sem.run_pure,if_neg hb,if_neg hn0,zeroValue,hz',e2,h1,newRow,run_newObj]
  simp
 have hN:=hr.none_of_look hfr
 have hnew:=hr.alloc (cap:=n) (z:=1) hfr (C.slot hn) (ob:=.var vs) (obj:=.cells xs' e)
  ⟨xs',e,heap_alloc_new w _,h2,rfl,fun j x v hx hv'=>(h3 j x v hx hv').mono (hr.mono_ext _ hN) (hr.imm_alloc d n 1 _ hN)⟩
 rw [hd]
 refine hnew.put (Qag hn) ?_
 exact .own d n ⟨w.heap.size,n,1,[],0⟩ (Q4 _ _ _) (Qc2 _)
theorem Stp.idxV {T d e z by_ b n m:Nat}{x y:Operand}{cs:List V}{k:IntKind}{j:Int}(ho:o.op=.indexAddr T x y)(hd:o.dst=some d)(hn:Nat.ble (d+1) C.n=true)
  (hx:σ.opd x=some (.own b n)) (hy:σ.opd y=some (.i k j)) (hT:Qas P T=some (e,z,by_)) (hb:look σ.hp b=some (.var cs)) (h0:(0<=j/\j<n)/\j.toNat*z=m):
  Stp P C o σ (σ.put d (.loc b 0 m)):=by
 refine Stp.same hd hn fun φ a w hr=>?_
 obtain⟨⟨h0,h1⟩,rfl⟩:=h0
 rcases(hr.opd hx).own_inv with⟨_,rfl⟩|⟨B,hB,hcap,he⟩
 ·omega
 refine⟨.pointer (some ⟨B.b,B.off+(0*B.z+j.toNat*z),none⟩),?_,.loc b 0 (j.toNat*z) B hB⟩
 simp only [execOp,ho,he,(hr.opd hy).i_inv,Sem.run_bind,Qmm hT h0 h1,Result.andThen_ok,Sem.run_pure,Addr.add_lit,Qml,Qmk]
end
section
variable {P:Program}{C:Ctx}{Q:Exit->St->Prop}
def Rnd (P:Program)(C:Ctx)(Q:Exit->St->Prop)(ks:List Fr)(c:Code):Nat->St->Prop
 | 0,_=>False
 | n+1,σ=>AK P C Q (.c c) (.cut (Rnd P C Q ks c n)::ks) σ
theorem AK.rnd {ks:List Fr}{c:Code}{n:Nat}{σ:St}(h:AK P C Q (.c c) (.cut (Rnd P C Q ks c n)::ks) σ):Rnd P C Q ks c (n+1) σ:=h
theorem AK.loopN {ks:List Fr}{c:Code}(n:Nat){σ:St}(h:Rnd P C Q ks c n σ):AK P C Q (.c (.loop c)) ks σ:=by
 have key:∀(n:Nat) (σ:St) (a:Act) (w:World),Rnd P C Q ks c n σ->R C σ a w->Code.roundsIn C.F 0 P c (up C (unw P C Q ks)) n a w:=by
  intro n
  induction n with
  | zero=>intro σ a w h;exact h.elim
  | succ n ih=>
   intro σ a w h hR
   rw [roundsIn_succ]
   refine wpIn_mono (h a w hR) ?_
   rintro e a' w' ⟨σ',h1,h2⟩
   cases e with
   | normal=>exact ih σ' a' w' h1 h2
   | _=>exact⟨σ',h1,h2⟩
 exact fun a w hR=>wpIn_loop_rounds n (key n σ a w h hR)
end
end Go.Vm
namespace Go.Vm
open Go Go.RowKit
def Qw1 (cs:List V):List Tmp->List V->List V
 | p::ps,v::vs=>Qw1 (cs.set p v) ps vs
 | _,_=>cs
theorem QBO {φ:Nat->Option Blk}{I:Nat->Prop}{w:World}:∀(ps:List Tmp) (ags:List Value) (vs:List V) (tm:Array Value) (cs:List V),ags.length=vs.length->tm.size=cs.length->
  (∀(j:Nat) x v,tm[j]? = some x->cs[j]? = some v->Rep φ I w x v)->(∀(j:Nat) x v,ags[j]? = some x->vs[j]? = some v->Rep φ I w x v)->
  ((ps.zip ags).foldl (fun tm p=>tm.setIfInBounds p.1 p.2) tm).size=(Qw1 cs ps vs).length/\∀(j:Nat) x v,((ps.zip ags).foldl (fun tm p=>tm.setIfInBounds p.1 p.2) tm)[j]? = some x->(Qw1 cs ps vs)[j]? = some v->Rep φ I w x v:=by
 intro ps
 induction ps with
 | nil=>intro ags vs tm cs _ h2 h3 _;cases vs<;>exact⟨h2,h3⟩
 | cons p ps ih=>
  intro ags vs tm cs h1 h2 h3 h4
  cases ags with
  | nil=>cases vs with
   | nil=>exact⟨h2,h3⟩
   | cons=>cases h1
  | cons y ags=>cases vs with
   | nil=>cases h1
   | cons v vs=>
    refine ih ags vs (tm.setIfInBounds p y) (cs.set p v) (by simpa using h1) (by simpa using h2) (fun j x u hx hu=>?_) fun j x u hx hu=>h4 (j+1) x u hx hu
    by_cases e:p=j
    ·subst e
     rw [Array.getElem?_setIfInBounds_self]at hx
     rw [List.getElem?_set_self']at hu
     split at hx
     ·rename_i hlt
      cases hx
      rw [QM (by omega)]at hu
      cases hu
      exact h4 0 _ _ rfl rfl
     cases hx
    rw [Qze e]at hx
    rw [List.getElem?_set_ne e]at hu
    exact h3 j x u hx hu
def QnS (P:Program)(l:Nat)(K:QgZ)(us:List V)(hs:List (Nat×Ob))(post:V->List (Nat×Ob)->Prop):Prop:=
 ∀(S:Nat->Prop) (φ:Nat->Option Blk) (w:World) (vals:Array Value),Ins S φ w vals us hs->Qn7 P S w->
  RoundIn Fence.wide 0 P l K.fn vals K.assign K.body w fun e w'=>∃x v hs' φ',e=.returned x/\post v hs'/\Outs S φ w φ' w' x v hs'
theorem QDM {C:Ctx}{n:Nat}{P:Program}{l:Nat}{f:FuncId}{tmps:Array Value}{assign body:Code}{w:World}{R:Ending->World->Prop}(h:RoundIn Fence.wide 0 P l f tmps assign body w R):RoundIn C.F n P l f tmps assign body w R:=
 ⟨trivial,fun c cs _=>h.2 c cs (room_wide _)⟩
section
variable {P:Program}{C:Ctx}{φ:Nat->Option Blk}{σ:St}{a:Act}{w:World}{o:Oper}
theorem RR.lp (h:RR C φ σ a w){b l:Nat}{K:QgZ}{cs:List V}{q:Nat}(hb:look σ.hp b=some (.lp l K cs q)):∃B,φ b=some B/\QC7 φ (Imm C φ w) w B l K cs q:=by
 rcases h.heap b _ hb with h | ⟨_,h⟩
 ·exact h
 exact h.elim
theorem RR.lpSet (h:RR C φ σ a w){b l:Nat}{K:QgZ}{cs:List V}{q q':Nat}(hb:look σ.hp b=some (.lp l K cs q)):
  ∃r:Loop,w.heap[l]? = some (.loop r)/\r.state=lst q/\r.pending=jmp q/\RR C φ (σ.set b (.lp l K cs q')) a (w.putObj l (.loop { r with state:=lst q',pending:=jmp q' })):=by
 obtain⟨B,hB,tmps,D,rfl,h1,h2,h3,h4⟩:=h.lp hb
 refine⟨_,h2,rfl,rfl,?_⟩
 have hlt:=(h.lt b B B.b hB B.self).1
 have hk:∀k,k≠B.b->(w.putObj B.b (.loop { state:=lst q',pending:=jmp q',fn:=K.fn,tmps,params:=K.ps,assign:=K.assign,body:=K.body,defers:=D })).heap[k]? = w.heap[k]? := fun k hk=>World.putObj_heap_other hk
 refine h.write hB rfl rfl rfl World.putObj_size hk ⟨tmps,D,rfl,h1,World.putObj_heap_same hlt,h3,fun j x v hx hv=>?_⟩
 refine(h4 j x v hx hv).mono (fun _ _ h=>h) fun k hk'=>⟨⟨by rw [World.putObj_size];exact hk'.1,hk'.2⟩,hk k fun e=>hk'.2.2 b B hB (.inl e)⟩
theorem Stp.yield {d b l:Nat}{K:QgZ}{cs:List V}{q:Nat}{x:Operand}{ags:Array Operand}{ts:Array TypeId}{M N:List (Nat×Nat)}{dead:List Nat}{hsC outs hsN:List (Nat×Ob)}{vs us:List V}{r r':V}(ho:o.op=.call { callee:=.value x,args:=ags,argTypes:=ts })
  (hx:σ.opd x=some (.clo (.yield l) [] [])) (hlp:look σ.hp b=some (.lp l K cs q)) (hq:q=0) (ha:σ.opsV ags.toList=some vs) (hps:vs.length=K.ps.size) (hd:o.dst=some d) (hn:Nat.ble (d+1) C.n=true) (hpg:C.pg P)
  (hnm:QdS σ M N dead outs=true) (hnd:(M.map Prod.fst).Nodup)
  (hv:Vws σ.hp false false (Qe1 M) (fun a b=>look M b=some a) (Qw1 cs K.ps.toList vs) us) (hobs:QkX σ.hp false false (Qe1 M) (fun a b=>look M b=some a) σ.hp M hsC)
  (hc:QnS P l K us hsC (Gives r outs)) (hback:QkX [] false false [] (fun c b=>look N b=some c) outs N hsN) (hr':Vw [] false false [] (fun c b=>look N b=some c) r r'):
  Stp P C o σ ((σ.after dead hsN).put d r'):=by
 intro a w ⟨φ,hr⟩ next Q hnext
 subst hq
 have hN:=Names.of hnm hnd
 refine⟨fun _ _=>trivial,?_⟩
 obtain⟨h1,h2⟩:=hr.opsV _ _ ha
 obtain⟨xs,ys,hev,e1,e2,_,_⟩:=(hr.opd hx).clo_inv
 have e1:xs=#[]:=QAC e1
 have e2:ys=#[]:=QAC e2
 subst e1;subst e2
 obtain⟨B,hB,tmps,D,e0,_,hh,hsz,hrep⟩:=hr.lp hlp
 have hl1:(ags.toList.map a.eval).length=vs.length:=by simpa using h1
 obtain⟨s1,s2⟩:=QBO (φ:=φ) (I:=Imm C φ w) (w:=w) K.ps.toList (ags.toList.map a.eval) vs tmps cs hl1 hsz hrep (fun j x v hx hv=>by
  simp only [Qau,Qax]at hx
  obtain⟨y,hy,rfl⟩:=hx
  exact h2 j y v hy hv)
 have hsize:(ags.map a.eval).size=K.ps.size:=by rw [<-hps,<-hl1];simp
 have hfold:(K.ps.zip (ags.map a.eval)).foldl (fun tmps (t,a)=>tmps.setIfInBounds t a) tmps=(K.ps.toList.zip (ags.toList.map a.eval)).foldl (fun tm p=>tm.setIfInBounds p.1 p.2) tmps:=by
  rw [<-Array.foldl_toList];simp
 have hex:(execOp a.eval o).run P w=.ok (.round l K.fn ((K.ps.toList.zip (ags.toList.map a.eval)).foldl (fun tm p=>tm.setIfInBounds p.1 p.2) tmps).toList.toArray K.assign K.body) w:=by
  simp only [execOp,ho,resolve,Sem.run_bind,hev,Deferred.ofValue,Sem.run_pure,Result.andThen_ok,invoke,Array.empty_append]
  rw [run_yield hh hsize,hfold]
 rw [Oper.semAt_eq _ _ _ (by rw [ho];intro c hc;cases hc),hex,Oper.uponIn_round]
 refine⟨(fun h=>by cases h),QDM ((hc _ _ w _ (Ins.of_vals hr (by simpa using s1) (fun j x v hx hv=>s2 j x v (by simpa using hx) hv) hN.injM hN.param hv hobs) ((hr.glob hpg).mono fun _ h=>.inl h)).mono ?_)⟩
 rintro e w' ⟨x,v,hs',φ',rfl,⟨rfl,hso⟩,hout⟩
 obtain⟨h3,h4⟩:=hr.after hN hout hso (fun c s h=>by
  obtain⟨ob',e1⟩:=hobs.get.2 c s h
  obtain⟨s',ob,e2,e3,_⟩:=hobs.get.1 c ob' e1
  rw [h]at e2;cases e2;exact⟨ob,e3⟩) hback
 refine hnext _ _ ⟨QkY φ M N dead φ',?_⟩
 rw [hd]
 exact h3.put (Qag hn) (h4 hr')
def QDN (b l:Nat)(K:QgZ)(post:V->List (Nat×Ob)->Prop):Exit->St->Prop
 | .normal,σ=>∃cs,look σ.hp b=some (.lp l K cs 1)/\post (.b true) ((b,.lp l K cs 0)::σ.hp)
 | .ret,σ=>∃cs,look σ.hp b=some (.lp l K cs 1)/\post (.b false) ((b,.lp l K cs 2)::σ.hp)
 | .exit k,σ=>∃cs,look σ.hp b=some (.lp l K cs 1)/\post (.b false) ((b,.lp l K cs (k+3))::σ.hp)
 | _,_=>False
theorem QnS.walk {b l:Nat}{K:QgZ}{us:List V}{hs:List (Nat×Ob)}{post:V->List (Nat×Ob)->Prop}(n:Nat)(hn:us.length=n)(hle:Nat.ble n 617=true)
  (h:∀C:Ctx,Qdg P C n->AK P C (fun e σ=>e=.normal/\∃cs,look σ.hp b=some (.lp l K cs 0)/\AK P C (QDN b l K post) (.c K.body) [] (σ.set b (.lp l K cs 1))) (.c K.assign) [] ⟨Qmn 0 us,hs⟩):QnS P l K us hs post:=by
 intro S φ w vals hi hG
 let C:Ctx:=⟨w,S,fun k=>∃o B,φ o=some B/\B.has k,n,φ,QbZ hle,some l⟩
 have hF:Fence.wide.inRound l=C.F:=rfl
 have hI:∀k,S k->Imm C φ w k/\w.heap[k]? = w.heap[k]? := fun k hk=>⟨⟨hi.lt k hk,fun _=>hk,fun o B hB e=>((hi.dom o B hB).2.1 k e).2 hk⟩,rfl⟩
 have hR:R C ⟨Qmn 0 us,hs⟩ { tmps:=vals,defers:=[] } w:=by
  refine⟨φ,rfl,rfl,rfl,Qc2 _,fun _ _ _=>rfl,hi.inj,fun o B hB=>(hi.dom o B hB).2.2,fun o B k hB hk=>⟨((hi.dom o B hB).2.1 k hk).1,fun _=>⟨o,B,hB,hk⟩⟩,fun o B k hB hk hlt=>absurd (hi.dom o B hB).1 (by omega),⟨fun _ _ _ h=>h,fun _ _ _ _ _ h=>h⟩,
   by show vals.size=n;rw [hi.size,hn],⟨[],rfl,List.nodup_nil,fun _ h=>by cases h⟩,fun t v hv=>?_,fun o ob hob=>?_⟩
  ·obtain⟨_,h2⟩:=Qyo us 0 t v hv
   rw [Nat.sub_zero]at h2
   have hlt:t<vals.size:=by rw [hi.size];exact(QX.1 h2).1
   exact⟨vals[t],Qe0 hlt,(hi.args t _ v (Qe0 hlt) h2).mono (fun _ _ h=>h) hI⟩
  rcases hi.heap o ob hob with⟨B,hB,hr⟩|hn
  ·exact .inl ⟨B,hB,hr.mono (fun _ _ h=>h) hI fun _ _=>rfl⟩
  exact .inr hn
 refine roundIn_of_wpIn trivial ?_
 rw [hF]
 refine wpIn_mono (h C ⟨rfl,hG,fun g hg ⟨o,B,hB,hb⟩=>((hi.dom o B hB).2.1 g hb).2 (hG g hg).1⟩ _ _ hR) ?_
 rintro e a1 w1 ⟨σ1,⟨rfl,cs,hlp,hbody⟩,φ1,hr1⟩
 obtain⟨r,g1,g2,g3,g4⟩:=hr1.lpSet (q':=1) hlp
 refine⟨_,run_beginRound g1 g2,?_⟩
 have hbusy:({ r with state:=LoopState.busy }:Loop)={ r with state:=lst 1,pending:=jmp 1 }:=by
  rw [show jmp 1=r.pending from g3.symm];rfl
 rw [hbusy]
 refine wpIn_mono (hbody _ _ ⟨φ1,g4⟩) ?_
 rintro e a2 w2 ⟨σ2,hq,φ2,hr2⟩
 have fin:∀(jump:Option Code) (q:Nat) (cs2:List V),look σ2.hp b=some (.lp l K cs2 1)->jmp q=jump->(if jump.isNone then LoopState.ready else LoopState.done)=lst q->post (.b jump.isNone) ((b,.lp l K cs2 q)::σ2.hp)->
   ∃v w',(Instr.endRound l jump).run P w2=.ok v w'/\∃x v' hs' φ',Ending.returned v=.returned x/\post v' hs'/\Outs S φ w φ' w' x v' hs':=fun jump q cs2 hl2 hj hst hp=>by
  obtain⟨r2,k1,_,_,k4⟩:=hr2.lpSet (q':=q) hl2
  refine⟨_,_,run_endRound jump k1,.bool jump.isNone,.b jump.isNone,_,φ2,rfl,hp,?_⟩
  rw [hst,<-hj]
  exact⟨k4.os,k4.tape,k4.output,k4.size,fun k hk hne=>k4.kept k hk (fun ⟨o,B,hB,e⟩=>hne o B hB e),k4.inj,k4.dom,
   fun o B k hB hk=>⟨(k4.lt o B k hB hk).1,fun hlt=>(k4.lt o B k hB hk).2 hlt⟩,k4.new,k4.stay,.dat (.b _),k4.heap⟩
 cases e with
 | normal=>obtain⟨cs2,hl2,hp⟩:=hq;exact fin none 0 cs2 hl2 rfl rfl hp
 | ret=>obtain⟨cs2,hl2,hp⟩:=hq;exact fin (some .ret) 2 cs2 hl2 rfl rfl hp
 | exit k=>obtain⟨cs2,hl2,hp⟩:=hq;exact fin (some (.exit k)) (k+3) cs2 hl2 rfl rfl hp
 | _=>exact hq.elim
theorem RR.mark (h:RR C φ σ a w):RR C φ σ { a with defers:={ target:=.collected w.heap.size,args:=#[] }::a.defers } (w.alloc (.deferred (some []))):=by
 have hs:=h.step (w':=w.alloc (.deferred (some []))) rfl rfl rfl (by simp) (fun k hk=>Below.heap_alloc w _ k hk)
 refine⟨hs.os,hs.tape,hs.output,hs.size,hs.kept,hs.inj,hs.dom,hs.lt,hs.new,hs.stay,hs.tmps,?_,hs.frame,hs.heap⟩
 obtain⟨Ds,h1,h2,h3⟩:=hs.defers
 obtain⟨Ds',h1',h2',h3'⟩:=h.defers
 refine⟨w.heap.size::Ds',by simp [h1'],Qlv.2 ⟨fun hm=>absurd (h3' _ hm).2.1.1 (by omega),h2'⟩,fun D hD=>?_⟩
 rcases Qbb.1 hD with rfl | hD
 ·refine⟨h.size,⟨by simp,fun hlt=>absurd h.size (by omega),fun o B hB hh=>absurd (h.lt o B _ hB hh).1 (by omega)⟩,World.alloc_heap_new w _⟩
 obtain⟨a1,a2,a3⟩:=h3' D hD
 exact⟨a1,⟨by have:=a2.1;simp;omega,a2.2⟩,(Below.heap_alloc w _ D a2.1).trans a3⟩
theorem RR.killTo (h:RR C φ σ a w){b:Nat}{B:Blk}(hB:φ b=some B){w':World}(ho:w'.os=w.os)(ht:w'.tape=w.tape)(hu:w'.output=w.output)(hs:w'.heap.size=w.heap.size)(hk:∀k,k≠B.b->w'.heap[k]? = w.heap[k]?):RR C (del φ b) (σ.kill b) a w':=by
 have hI:∀k,Imm C φ w k->Imm C (del φ b) w' k/\w'.heap[k]? = w.heap[k]? := fun k hk'=>⟨⟨by rw [hs];exact hk'.1,hk'.2.1,fun o B' hB'=>hk'.2.2 o B' (Qb0 hB').2⟩,hk k fun e=>hk'.2.2 b B hB (.inl e)⟩
 have hφ:∀o B,o≠b->φ o=some B->del φ b o=some B:=fun o B ho hB=>by rw [Qd7 ho];exact hB
 refine⟨ho.trans h.os,ht.trans h.tape,hu.trans h.output,by rw [hs];exact h.size,fun k h1 h2=>(hk k fun e=>h2 ((h.lt b B k hB (.inl e)).2 h1)).trans (h.kept k h1 h2),fun o o' B B' k h1 h2=>h.inj o o' B B' k (Qb0 h1).2 (Qb0 h2).2,?_,fun o B k hB=>by rw [hs];exact h.lt o B k (Qb0 hB).2,fun o B k hB=>h.new o B k (Qb0 hB).2,
  ⟨fun o B h1 hB=>h.stay.1 o B h1 (Qb0 hB).2,fun o ob B h1 ho hB=>by obtain⟨hne,ob',h2,_⟩:=QcI _ _ _ ho;rw [Qd7 hne];exact h.stay.2 o ob' B h1 h2 hB⟩,h.tmps,h.defers.mono hI,?_,?_⟩
 ·intro o B hB
  obtain⟨h1,h2⟩:=Qb0 hB
  obtain⟨ob,hob⟩:=h.dom o B h2
  exact⟨_,QfB _ _ _ h1 hob⟩
 ·intro t v hv
  obtain⟨v',hv',rfl⟩:=QnD _ _ _ hv
  obtain⟨x,hx,hr⟩:=h.frame t v' hv'
  exact⟨x,hx,hr.kill hφ hI⟩
 intro o ob hob
 obtain⟨hne,ob',hob',rfl⟩:=QcI _ _ _ hob
 rcases h.heap o ob' hob' with⟨B',hB',hr⟩|⟨h1,hz⟩
 ·exact .inl ⟨B',hφ o B' hne hB',hr.kill hφ hI fun k hk'=>hk k fun e=>hne (h.inj o b B' B k hB' hB hk' (.inl e))⟩
 exact .inr ⟨by rw [Qd7 hne];exact h1,hz.kill⟩
def snap (ts:List Nat)(fr:List (Nat×V))(n:Nat):List V:=(List.range n).map fun t=>bif Q6 ts t then(match look fr t with
 | some v=>v
 | none=>.J)else .J
theorem RR.snap {ts:List Nat}(h:RR C φ σ a w):∀(j:Nat) x v,a.tmps[j]? = some x->(snap ts σ.fr C.n)[j]? = some v->Rep φ (Imm C φ w) w x v:=by
 intro j x v hx hv
 simp only [Vm.snap,Qau,Qax]at hv
 obtain⟨t,ht,rfl⟩:=hv
 obtain⟨_,rfl⟩:=QX.1 ht
 simp only [Qu3]at *
 cases hm:Q6 ts j with
 | false=>exact .dat (.J _)
 | true=>
 simp only [cond_true]
 split
 ·rename_i v hv
  obtain⟨y,hy,hr⟩:=h.frame _ _ hv
  rw [hx]at hy;cases hy;exact hr
 exact .dat (.J _)
def rgV (P:Program)(σ:St)(f:Nat)(vs:List V)(M N:List (Nat×Nat))(dead:List Nat)(ms:List Qe3)(outs:List (Nat×Ob))(r:V):Option (St×Prop):=
 bif QdS σ M N dead outs&&Qhg (M.map Prod.fst)&&Qhg (N.map Prod.fst)then match Qmr (bkM M) ms vs with
  | some us=>match QiH (bkM M) (look σ.hp) M with
   | some hsC=>match QiH (bkM N) (look outs) N with
    | some hsN=>some (σ.after dead hsN,Qc P f us hsC (Gives r outs))
    | none=>none
   | none=>none
  | none=>none
 else none
def atJ (p:Prop)(f:Code->Prop):Option Code->Prop
 | none=>p
 | some c=>f c
theorem AK.rangeF {Q:Exit->St->Prop}{ks:List Fr}{g:Operand}{ps:Array Tmp}{assign body:Code}{f n:Nat}{fs cps:List V}(b:Nat)(ts:List Nat)(M N:List (Nat×Nat))(dead:List Nat)(ms:List Qe3)(K:Nat->QgZ)(hCn:Qdg P C n)(hrnd:C.rnd=none)(hK:∀fn,K fn=⟨fn,ps,assign,body⟩)
  (hg:σ.opd g=some (.clo (.func f) fs cps)) (he:Qrw P f=true) (hb:look σ.hp b=none) (hb2:Nat.ble 617 b=false)
  (H:∀l fn,∃outs r σ2 φ2 cs2 q,rgV P (σ.set b (.lp l (K fn) (snap ts σ.fr n) 0)) f (fs++(.clo (.yield l) [] []::cps)) M N dead ms outs r=some (σ2,φ2)/\φ2/\look σ2.hp b=some (.lp l (K fn) cs2 q)/\q≠1/\
   atJ (AK P C Q (.x .normal) ks (σ2.kill b)) (fun c=>AK P C Q (.c c) ks (σ2.kill b)) (jmp q)):AK P C Q (.c (.rangeFunc g ps assign body)) ks σ:=by
 obtain rfl:K=fun fn=>⟨fn,ps,assign,body⟩:=funext hK
 have hpg:=hCn.g
 replace hCn:=hCn.n
 subst hCn
 intro a w ⟨φ,hr⟩
 refine wpIn_rangeFunc fun fn _=>?_
 obtain⟨outs,r,σ2,φ2,cs2,q,e,hφ2,hq,hq1,hk⟩:=H (w.heap.size+1) fn
 obtain⟨xs,ys,hev,e1,e2,e3,e4⟩:=(hr.opd hg).clo_inv
 have hb3:b<617:=Qe2 (by rw [hb2];rfl)
 refine⟨w.heap.size+1,[{ target:=.collected w.heap.size,args:=#[] }],(w.alloc (.deferred (some []))).alloc (.loop { state:=.ready,pending:=none,fn,tmps:=a.tmps,params:=ps,assign,body,defers:=w.heap.size }),{ target:=.fn (.func f) ys,args:=xs++#[.func (.yield (w.heap.size+1)) #[] #[]] },(w.alloc (.deferred (some []))).alloc (.loop { state:=.ready,pending:=none,fn,tmps:=a.tmps,params:=ps,assign,body,defers:=w.heap.size }),f,(xs++#[.func (.yield (w.heap.size+1)) #[] #[]])++ys,(w.alloc (.deferred (some []))).alloc (.loop { state:=.ready,pending:=none,fn,tmps:=a.tmps,params:=ps,assign,body,defers:=w.heap.size }),?_,?_,fun _ _=>trivial,?_,(fun h=>by cases h),?_⟩
 ·rw [show C.F.round=none from hrnd];exact run_enterLoop_outer _ _ _ _ _
 ·have hy:a.eval (.const (.func (.yield (w.heap.size+1)) #[] #[]))=.func (.yield (w.heap.size+1)) #[] #[]:=rfl
  simp only [resolve,hev,Deferred.ofValue,Sem.run_pure,List.map_toArray,Qgq,List.map_nil,hy]
 ·exact Qhf he
 have hm:=hr.mark
 have hN0:=hm.none_of_look hb
 have hsz:(w.alloc (.deferred (some []))).heap.size=w.heap.size+1:=by simp
 have hR1:=hm.alloc (cap:=0) (z:=0) hb hb3 (ob:=.lp (w.heap.size+1) ⟨fn,ps,assign,body⟩ (snap ts σ.fr C.n) 0)
  (obj:=.loop { state:=.ready,pending:=none,fn,tmps:=a.tmps,params:=ps,assign,body,defers:=w.heap.size })
  ⟨a.tmps,w.heap.size,hsz,rfl,by rw [<-hsz];exact World.alloc_heap_new _ _,by rw [hr.tmps];simp [Vm.snap],fun j x v hx hv=>(hm.snap j x v hx hv).mono (hm.mono_ext _ hN0) (hm.imm_alloc b 0 0 _ hN0)⟩
 rw [hsz]at hR1
 generalize hσ1:σ.set b (.lp (w.heap.size+1) ⟨fn,ps,assign,body⟩ (snap ts σ.fr C.n) 0)=σ1 at hR1 e
 generalize hw1:(w.alloc (.deferred (some []))).alloc (.loop { state:=.ready,pending:=none,fn,tmps:=a.tmps,params:=ps,assign,body,defers:=w.heap.size })=w1 at hR1 ⊢
 have hval:(xs++#[.func (.yield (w.heap.size+1)) #[] #[]])++ys=(xs.toList++(.func (.yield (w.heap.size+1)) #[] #[]::ys.toList)).toArray:=by apply Array.ext';simp
 rw [hval]
 unfold rgV at e
 replace e:=Qad e;obtain⟨e0,e⟩:=e
 simp only [QB]at e0
 obtain⟨⟨h1,h2⟩,h3⟩:=e0
 have h2:=QcP.1 h2
 have h3:=QcP.1 h3
 have inj:QhN M=true/\QhN N=true:=by
  simp only [QdS,QB]at h1
  exact⟨h1.1.1.1,h1.1.1.2⟩
 have mM:∀a b,bkM M a=some b->look M b=some a:=fun a b h=>QbP inj.1 (Qgd h) h2
 have mN:∀a b,bkM N a=some b->look N b=some a:=fun a b h=>QbP inj.2 (Qgd h) h3
 have hNm:=Names.of h1 h2
 split at e
 case h_2=>cases e
 rename_i us hus
 split at e
 case h_2=>cases e
 rename_i hsC hC
 split at e
 case h_2=>cases e
 rename_i hsN hNN
 cases e
 have hobs:=Qdh (hp:=σ1.hp) (g:=false) (bad:=Qe1 M) mM hC
 have hfr1:σ1.fr=σ.fr:=by rw [<-hσ1];rfl
 refine Qpq ((hφ2 _ _ w1 _ (Ins.of_vals (g:=false) (vs:=fs++(.clo (.yield (w.heap.size+1)) [] []::cps)) hR1 (by simp [e1,e2]) (fun j x v hx hv=>?_) hNm.injM hNm.param (QiA mM hus) hobs) ((hR1.glob hpg).mono fun _ h=>.inl h)).mono ?_)
 ·have up:=fun {x:Value} {v:V} (h:Rep φ (Imm C φ w) w x v)=>(h.mono (φ':=φ) (I':=Imm C φ (w.alloc (.deferred (some [])))) (w':=w.alloc (.deferred (some []))) (fun _ _ h=>h) fun k hk=>⟨⟨by have:=hk.1;simp;omega,hk.2⟩,Below.heap_alloc w _ k hk.1⟩).mono (hm.mono_ext ⟨w.heap.size+1,0,0,[],0⟩ hN0) (by
   have:=hm.imm_alloc b 0 0 (.loop { state:=.ready,pending:=none,fn,tmps:=a.tmps,params:=ps,assign,body,defers:=w.heap.size }) hN0
   rw [hsz,hw1]at this;exact this)
  by_cases c1:j<fs.length
  ·rw [QbS (by simpa using (by omega:j<xs.size))]at hx
   rw [QbS c1]at hv
   exact up (e3 j x v (by simpa using hx) hv)
  rw [QbY (by simp;omega)]at hx
  rw [QbY (by omega)]at hv
  simp only [QxL]at hx
  rw [e1]at hx
  generalize j-fs.length=i at hx hv
  cases i with
  | zero=>
   simp at hx hv;subst hx;subst hv
   exact .clo (.yield _) #[] #[] [] [] rfl rfl (fun j x v h=>by simp at h) (fun j x v h=>by simp at h)
  | succ i=>simp only [Qu2]at hx hv;exact up (e4 i x v (by simpa using hx) hv)
 rintro e w' ⟨x,v,hs',φ',rfl,⟨rfl,hso⟩,hout⟩
 obtain⟨k3,_⟩:=hR1.after hNm hout hso (fun c s h=>by
  obtain⟨ob',e1⟩:=hobs.get.2 c s h
  obtain⟨s',ob,e2,e3,_⟩:=hobs.get.1 c ob' e1
  rw [h]at e2;cases e2;exact⟨ob,e3⟩) (Qdh mN hNN)
 obtain⟨B,hB,tmps,D,f1,f2,f3,f4,f5⟩:=k3.lp hq
 have hst:lst q≠.busy:=by
  match q,hq1 with
  | 0,_=>exact(by intro h;cases h)
  | 1,h=>exact absurd rfl h
  | k+2,_=>exact(by intro h;cases h)
 refine⟨_,_,run_endLoop f3 hst,?_⟩
 have hkill:=k3.killTo hB (w':=w'.putObj (w.heap.size+1) (.loop { state:=.exhausted,pending:=jmp q,fn,tmps,params:=ps,assign,body,defers:=D })) rfl rfl rfl World.putObj_size (fun k hk=>World.putObj_heap_other (by rw [<-f1];exact hk))
 simp only
 cases hj:jmp q with
 | none=>rw [hj]at hk hkill;exact hk _ _ ⟨_,hkill⟩
 | some c=>rw [hj]at hk hkill;exact hk _ _ ⟨_,hkill⟩
end
section
variable {P:Program}{C:Ctx}{φ:Nat->Option Blk}{σ:St}{a:Act}{w:World}{o:Oper}
def Qug (P:Program)(T:TypeId)(i:Nat):Option (Nat×Bool×Nat):=match P.underlying T with
 | some (.struct fs)=>match fs[i]? with
  | some f=>match Qf8 P f.type with
   | some g=>match QfS P f.type with
    | some n=>some (f.offset,g,n)
    | none=>none
   | none=>none
  | none=>none
 | _=>none
theorem QA4 {T i off n:Nat}{g:Bool}(h:Qug P T i=some (off,g,n)):∃(fs:Array Field) (f:Field),P.underlying T=some (.struct fs)/\fs[i]? = some f/\f.offset=off/\Qf8 P f.type=some g/\QfS P f.type=some n:=by
 unfold Qug at h
 split at h
 ·rename_i fs hu
  split at h
  ·rename_i f hf
   split at h
   ·rename_i g' hg
    split at h
    ·rename_i n' hn;cases h;exact⟨fs,f,hu,hf,rfl,hg,hn⟩
    cases h
   cases h
  cases h
 cases h
theorem Stp.field {T i d off n:Nat}{g:Bool}{x:Operand}{cs:List V}{v:V}(ho:o.op=.field T x i)(hd:o.dst=some d)(hn:Nat.ble (d+1) C.n=true)(hx:σ.opd x=some (.agg cs))(hT:Qug P T i=some (off,g,n))
  (hv:(bif g then some (.agg ((cs.drop off).take n))else cs[off]?)=some v):Stp P C o σ (σ.put d v):=by
 refine Stp.same hd hn fun φ a w hr=>?_
 obtain⟨fs,f,hu,hf,rfl,hg,hsz⟩:=QA4 hT
 obtain⟨xs,he,hs,hc⟩:=(hr.opd hx).agg_inv
 cases g with
 | true=>
  cases hv
  refine⟨.agg (xs.extract f.offset (f.offset+n)),?_,.agg _ _ (by simp;omega) fun j x v hj hv=>?_⟩
  ·simp only [execOp,ho,he,Instr.field,Sem.run_bind,run_underlying hu,Result.andThen_ok,hf,part,asAgg,Sem.run_pure,QqH hg,if_true,Qsu hsz]
  rw [Array.getElem?_extract]at hj
  split at hj
  ·rw [Qco]at hv
   split at hv
   ·rw [Qgp]at hv;exact hc _ x v hj hv
   cases hv
  cases hj
 | false=>
  simp only [cond_false]at hv
  have hlt:f.offset<xs.size:=by rw [hs];exact(QX.1 hv).1
  refine⟨xs[f.offset],?_,hc _ _ v (Qe0 hlt) hv⟩
  simp [execOp,ho,he,Instr.field,Sem.run_bind,run_underlying hu,hf,part,asAgg,QqH hg,hlt]
theorem QBP : ∀(ms:List (Option Nat)) (cs:List V),(QdR ms cs).length=cs.length:=by
 intro ms
 induction ms with
 | nil=>intro cs;cases cs<;>rfl
 | cons m ms ih=>intro cs;cases cs with
  | nil=>rfl
  | cons c cs=>simp [QdR,ih]
theorem Dat.den1 {I:Nat->Prop}{w:World}{x:Value}{v:V}{m:Option Nat}(h:Dat I w x v):Dat I w x (Vm.den1 m v):=by
 unfold Vm.den1
 split
 ·cases h;exact .sl0 _ _ _
 exact h
theorem QCO {m:Option Nat}{v:V}(h:v.one=true):(Vm.den1 m v).one=true:=by
 unfold Vm.den1
 split
 ·rfl
 exact h
theorem R.denilA {b z:Nat}{rs:List (List V)}{ms:List (Option Nat)}(hb:look σ.hp b=some (.arr z rs))(h:R C σ a w):R C (σ.set b (.arr z (rs.map (QdR ms)))) a w:=by
 obtain⟨φ,hr⟩:=h
 have hden:∀(ms:List (Option Nat)) (r:List V),(∀v∈r,v.one=true)->∀v∈QdR ms r,v.one=true:=by
  intro ms
  induction ms with
  | nil=>intro r hr;cases r<;>exact hr
  | cons m ms ih=>intro r hr;cases r with
   | nil=>exact hr
   | cons c r=>
    intro v hv
    rcases Qbb.1 hv with rfl | hv
    ·exact QCO (hr c Qb9)
    exact ih r (fun v hv=>hr v (QcN _ hv)) v hv
 by_cases hne:rs=[]
 ·subst hne
  exact⟨φ,hr.sayOb (ob':=.arr z []) hb (fun _ _ h=>h) (.inl rfl)⟩
 refine⟨φ,hr.sayOb hb (fun B hB hrep=>?_) (.inr fun e=>hne e)⟩
 obtain⟨h1,h2,h3,cs,E,h4,h5,h6⟩:=hrep
 refine⟨h1,by simpa using h2,fun r hr'=>?_,cs,E,h4,h5,fun i r hi j v hj=>?_⟩
 ·obtain⟨r0,hr0,rfl⟩:=QaN.1 hr'
  exact⟨by rw [QBP];exact(h3 r0 hr0).1,hden _ _ (h3 r0 hr0).2⟩
 rw [Qau]at hi
 obtain⟨r0,hi0,rfl⟩:=Qax.1 hi
 obtain⟨m,v',hv',rfl⟩:=Qpt _ _ j v hj
 obtain⟨x,hx,hD⟩:=h6 i r0 hi0 j v' hv'
 exact⟨x,hx,hD.den1⟩
theorem AK.denilA {Q:Exit->St->Prop}{pt:Pt}{ks:List Fr}{b z:Nat}{rs us:List (List V)}(ms:List (Option Nat))(hb:look σ.hp b=some (.arr z rs))(he:rs.map (QdR ms)=us)(k:AK P C Q pt ks (σ.set b (.arr z us))):AK P C Q pt ks σ:=by
 subst he
 exact AK.weaken (fun a w h=>R.denilA hb h) k
theorem QzA {α:Type}{f:α->List V}{n:Nat}{x:α}{r:List V}{ms:List (Option Nat)}(h:QdR ms r=f x):(List.replicate n r).map (QdR ms)=(List.replicate n x).map f:=by simp [h]
end
theorem QDO {p:Prop}{f:Code->Prop}{q:Nat}(h:(q==0)=true)(k:p):atJ p f (jmp q):=by rw [eq_of_beq h];exact k
theorem QES {p:Prop}{f:Code->Prop}{q:Nat}(h:(q==2)=true)(k:f .ret):atJ p f (jmp q):=by rw [eq_of_beq h];exact k
def rfs : Code->List (Array Tmp×Code×Code)
 | .seq x y=>rfs x++rfs y
 | .cond _ x y=>rfs x++rfs y
 | .block _ x=>rfs x
 | .loop x=>rfs x
 | .rangeFunc _ ps a b=>[(ps,a,b)]
 | _=>[]
def QDP (f:Func)(k fn:Nat):QgZ:=match f.body with
 | some c=>match (rfs c)[k]? with
  | some (ps,a,b)=>⟨fn,ps,a,b⟩
  | none=>⟨fn,#[],.skip,.skip⟩
 | none=>⟨fn,#[],.skip,.skip⟩
def yV (P:Program)(σ:St)(l d:Nat)(K:QgZ)(vs:List V)(M N:List (Nat×Nat))(dead:List Nat)(ms:List Qe3)(outs:List (Nat×Ob))(r:V):Option (St×Prop):=
 bif QdS σ M N dead outs&&Qhg (M.map Prod.fst)&&Qhg (N.map Prod.fst)then match Qmr (bkM M) ms vs with
  | some us=>match QiH (bkM M) (look σ.hp) M with
   | some hsC=>match QiH (bkM N) (look outs) N with
    | some hsN=>match trV (bkM N) r with
     | some r'=>some ((σ.after dead hsN).put d r',QnS P l K us hsC (Gives r outs))
     | none=>none
    | none=>none
   | none=>none
  | none=>none
 else none
section
variable {P:Program}{C:Ctx}{σ σ':St}{o:Oper}
theorem Stp.yieldV {d b l:Nat}{K:QgZ}{cs:List V}{q:Nat}{x:Operand}{ags:Array Operand}{ts:Array TypeId}{M N:List (Nat×Nat)}{dead:List Nat}{outs:List (Nat×Ob)}{vs us:List V}{ms:List Qe3}{r:V}{φ:Prop}(ho:o.op=.call { callee:=.value x,args:=ags,argTypes:=ts })
  (hx:σ.opd x=some (.clo (.yield l) [] [])) (hlp:look σ.hp b=some (.lp l K cs q)) (hq:q=0) (ha:σ.opsV ags.toList=some vs) (hps:vs.length=K.ps.size) (hd:o.dst=some d) (hn:Nat.ble (d+1) C.n=true) (hpg:C.pg P)
  (hu:Qw1 cs K.ps.toList vs=us) (e:yV P σ l d K us M N dead ms outs r=some (σ',φ)) (hφ:φ):Stp P C o σ σ':=by
 unfold yV at e
 replace e:=Qad e;obtain⟨e1,e⟩:=e
 simp only [QB]at e1
 obtain⟨⟨h1,h2⟩,h3⟩:=e1
 have h2:=QcP.1 h2
 have h3:=QcP.1 h3
 have inj:QhN M=true/\QhN N=true:=by
  simp only [QdS,QB]at h1
  exact⟨h1.1.1.1,h1.1.1.2⟩
 have mM:∀a b,bkM M a=some b->look M b=some a:=fun a b h=>QbP inj.1 (Qgd h) h2
 have mN:∀a b,bkM N a=some b->look N b=some a:=fun a b h=>QbP inj.2 (Qgd h) h3
 split at e
 ·rename_i us hus
  split at e
  ·rename_i hsC hC
   split at e
   ·rename_i hsN hN
    split at e
    ·rename_i r' hr
     cases e
     subst hu
     exact Stp.yield ho hx hlp hq ha hps hd hn hpg h1 h2 (QiA mM hus) (Qdh mM hC) hφ (Qdh mN hN) (Ql8 mN hr)
    cases e
   cases e
  cases e
 cases e
end
section
variable {P:Program}{C:Ctx}{φ:Nat->Option Blk}{σ:St}{a:Act}{w:World}{o:Oper}
theorem Qti {zc:Array Value}{z m i:Nat}(hz:zc.size=z)(h0:0<z)(h:i<m*z):(Builtin.zeroCells zc m).toList[i]? = zc[i % z]? := by
 have h2:i % z<zc.size:=by rw [hz];exact Nat.mod_lt _ h0
 simp only [Builtin.zeroCells,hz,Array.toList_map,Array.toList_range,Qau,List.getElem?_range h,Qgr,Array.getElem!_eq_getD,Qpl,Qe0 h2,Option.getD_some]
theorem RR.clearTail {b n l z e:Nat}{rs:List (List V)}{zs:List V}{zv:Value}{B:Blk}(hr:RR C φ σ a w)(hb:look σ.hp b=some (.arr z rs))(hrn:rs.length=n)(hB:φ b=some B)(hzs:zv.cells.toList.map Qgb=zs)(hzl:zs.length=z)(h0:0<z)(hzo:zs.all V.one=true)
  (hln:l<=n):∃w',(storeCells ⟨B.b,B.off+l*z,none⟩ (Builtin.zeroCells zv.cells (n-l)).toList).run P w=.ok () w'/\RR C φ (σ.set b (.arr z (rs.take l++List.replicate (n-l) zs))) a w':=by
 obtain⟨hz,hrl,hok,xs,E,e1,e2,e3⟩:=hr.block hB hb
 subst hz
 have hcs:zv.cells.size=B.z:=by rw [<-hzl,<-hzs];simp
 rw [Q9]at hzo
 have hlen:(Builtin.zeroCells zv.cells (n-l)).toList.length=(n-l)*B.z:=by simp [Builtin.zeroCells,hcs]
 have hmul:l*B.z+(n-l)*B.z=n*B.z:=by rw [<-Qc1];congr 1;omega
 have hnc:n*B.z<=B.cap*B.z:=QcO _ (by omega)
 have hone:∀v∈(Builtin.zeroCells zv.cells (n-l)).toList,v.oneCell'=true:=by
  intro v hv
  obtain⟨i,hi⟩:=Qlu.1 hv
  have hil:i<(n-l)*B.z:=by rw [<-hlen];exact(QX.1 hi).1
  rw [Qti hcs h0 hil]at hi
  have hm:(Qgb v)∈zs:=by rw [<-hzs];exact List.mem_map_of_mem (QvX.2 (Array.mem_of_getElem? hi))
  exact((Rep.dat (φ:=φ) (I:=fun _=>True) (w:=w) (Dat.const v)).oneCell (hzo _ hm)).2
 generalize hZ:(Builtin.zeroCells zv.cells (n-l)).toList=Z at hlen hone
 have hrun:=run_storeCells_at P B.b (B.off+l*B.z) E Z 0 xs w e1 (by rw [hlen];omega) hone
 simp only [Qlw]at hrun
 refine⟨_,hrun,?_⟩
 have hl1:(xs.toList.take (B.off+l*B.z)++Z++xs.toList.drop (B.off+l*B.z+Z.length)).length=xs.size:=by simp [hlen];omega
 refine hr.write hB rfl rfl rfl (by simp) (fun k hk=>setRow_other w B.b k _ hk) ⟨rfl,by simp;omega,?_,_,E,setRow_heap w B.b xs _ E _ e1,?_,?_⟩
 ·intro r' hr'
  rcases Qei.1 hr' with h | h
  ·exact hok r' (QiV h)
  rw [Qsr h];exact⟨hzl,hzo⟩
 ·simp only [List.size_toArray,hl1];exact e2
 have hI:∀k,Imm C φ w k->Imm C φ (w.setRow B.b (xs.toList.take (B.off+l*B.z)++Z++xs.toList.drop (B.off+l*B.z+Z.length)).toArray) k/\
   (w.setRow B.b (xs.toList.take (B.off+l*B.z)++Z++xs.toList.drop (B.off+l*B.z+Z.length)).toArray).heap[k]? = w.heap[k]?:=
  fun k hk=>⟨⟨by simpa using hk.1,hk.2⟩,setRow_other w B.b k _ fun e=>hk.2.2 b B hB (.inl e)⟩
 intro i r hi j v hj
 by_cases hil:i<l
 ·rw [QbS (by simp;omega),Qco,if_pos hil]at hi
  obtain⟨y,hy,hD⟩:=e3 i r hi j v hj
  have hjz:j<B.z:=by rw [<-(hok r (Qaa hi)).1];exact(QX.1 hj).1
  have hlt:i*B.z+j<l*B.z:=by
   have:(i+1)*B.z<=l*B.z:=QcO _ hil
   rw [Qc1]at this;omega
  refine⟨y,?_,hD.mono hI⟩
  have hyl:=(Qhe.1 hy).1
  rw [QiT,QhM,QbS (by simp;omega),Qco,if_pos (by omega)];simpa using hy
 rw [QbY (by simp;omega)]at hi
 simp only [QeR,hrn,Nat.min_eq_left hln]at hi
 rw [List.getElem?_replicate]at hi
 split at hi
 ·rename_i hin
  cases hi
  have hjz:j<B.z:=by rw [<-hzl];exact(QX.1 hj).1
  rw [<-hzs,Qau]at hj
  obtain⟨y,hy,rfl⟩:=Qax.1 hj
  refine⟨y,?_,Dat.const y⟩
  have hidx:(i-l)*B.z+j<(n-l)*B.z:=by
   have:(i-l+1)*B.z<=(n-l)*B.z:=QcO _ hin
   rw [Qc1]at this;omega
  have hsum:i*B.z=l*B.z+(i-l)*B.z:=by rw [<-Qc1];congr 1;omega
  rw [QiT,QhM,QbY (by simp;omega),QbS (by simp [hlen];omega)]
  have:B.off+(i*B.z+j)-(xs.toList.take (B.off+l*B.z)).length=(i-l)*B.z+j:=by simp;omega
  rw [this,<-hZ,Qti hcs h0 hidx]
  have hm:((i-l)*B.z+j) % B.z=j:=by rw [Nat.add_comm,Nat.add_mul_mod_self_right,Nat.mod_eq_of_lt hjz]
  rw [hm];simpa using hy
 cases hi
theorem AK.clearTail {Q:Exit->St->Prop}{ks:List Fr}{ops:Array Oper}{rest:List Oper}{o1 o2:Oper}{T d b n l z e by_:Nat}{x lo:Operand}{rs us:List (List V)}{zs:List V}(hg1:o1.guard=none)(hg2:o2.guard=none)
  (ho1:o1.op=.slice T x (some lo) none none) (hd1:o1.dst=some d) (ho2:o2.op=.call { callee:=.builtin .clear,args:=#[.tmp d],argTypes:=#[T] }) (hd2:o2.dst=none) (hn:Nat.ble (d+1) C.n=true)
  (hx:σ.opd x=some (.own b n)) (hb:look σ.hp b=some (.arr z rs)) (hrn:rs.length=n) (hT:Qas P T=some (e,z,by_)) (hz:Qaz P e=some zs) (hzl:zs.length=z) (h0:Nat.ble 1 z=true) (hzo:zs.all V.one=true) (hl:Bnd σ 0 (some lo) l) (hln:l<=n)
  (hu:rs.take l++List.replicate (n-l) zs=us) (k:AK P C Q (.o ops rest) ks ((σ.set b (.arr z us)).put d .J)):AK P C Q (.o ops (o1::o2::rest)) ks σ:=by
 intro a w ⟨φ,hr⟩
 subst hu
 have h0:=QbZ h0
 obtain⟨hu,i,hi',hiz,_⟩:=Qcp hT
 obtain⟨i',zv,hi2,hz',hzs⟩:=QhG hz
 have key:∃x1 w',(execOp a.eval o1).run P w=.ok (.value x1) w/\(Builtin.clear_ #[T] o2.type #[x1]).run P w=.ok (.tuple #[]) w'/\RR C φ (σ.set b (.arr z (rs.take l++List.replicate (n-l) zs))) a w':=by
  rcases(hr.opd hx).own_inv with⟨he,rfl⟩|⟨B,hB,hcap,he⟩
  ·have l0:l=0:=by omega
   subst l0
   have:rs=[]:=Qmh.1 hrn
   subst this
   refine⟨.slice none 0 0,w,?_,?_,hr.sayOb (ob':=.arr z []) hb (fun _ _ h=>h) (.inl rfl)⟩
   ·have hbn:=Qkj (P:=P) (b:=true) hr hl (.no (dflt:=0)) (by omega) (by omega:0<=0)
    simp only [Qgr,Qss]at hbn
    simp [execOp,ho1,he,Instr.sliceAt,Instr.slice,run_underlying hu,hbn,sizeOf,typeInfo,hi']
   simp [Builtin.clear_,run_underlying hu]
  have hbn:=Qkj (P:=P) (b:=true) hr hl (.no (dflt:=n)) hln (by omega:n<=B.cap)
  simp only [Qgr,Qss]at hbn
  by_cases hcl:B.cap=l
  ·have hln2:n-l=0:=by omega
   refine⟨.slice (some ⟨B.b,B.off,none⟩) 0 0,w,?_,?_,?_⟩
   ·simp only [execOp,ho1,he,Instr.sliceAt,Instr.slice,run_underlying hu,hbn,sizeOf,typeInfo,hi',Sem.run_bind,Sem.run_pure,run_program,Result.andThen_ok,Qgr,Qss]
    simp [hcl];omega
   ·simp [Builtin.clear_,run_underlying hu]
   rw [hln2,List.replicate_zero,List.append_nil,Qmj (by omega)]
   exact hr.sayOb hb (fun _ _ h=>h) (.inl rfl)
  obtain⟨w',hw,hr'⟩:=hr.clearTail (P:=P) (l:=l) (e:=e) hb hrn hB hzs hzl h0 hzo hln
  refine⟨.slice (some ⟨B.b,B.off+l*z,none⟩) (n-l) (B.cap-l),?_⟩
  have hex:(execOp a.eval o1).run P w=.ok (.value (.slice (some ⟨B.b,B.off+l*z,none⟩) (n-l) (B.cap-l))) w:=by
   simp only [execOp,ho1,he,Instr.sliceAt,Instr.slice,run_underlying hu,hbn,sizeOf,typeInfo,hi',Sem.run_bind,Sem.run_pure,run_program,Result.andThen_ok,Qgr,Qss,if_neg hcl,hiz,Addr.add_lit]
  by_cases hnl:n-l=0
  ·refine⟨w,hex,?_,?_⟩
   ·rw [hnl];simp [Builtin.clear_,run_underlying hu]
   rw [hnl,List.replicate_zero,List.append_nil,Qmj (by omega)]
   exact hr.sayOb hb (fun _ _ h=>h) (.inl rfl)
  refine⟨w',hex,?_,hr'⟩
  obtain⟨m,hm⟩:∃m,n-l=m+1:=⟨n-l-1,by omega⟩
  rw [hm]at hw ⊢
  rw [hi2]at hi';cases hi'
  simp only [Builtin.clear_,Sem.run_bind,run_underlying hu,Result.andThen_ok,Sem.run_pure,zeroValue,typeInfo,run_program,hi2,hz',QiT,List.getElem?_cons_zero]
  simp [hw,hz']
 obtain⟨x1,w',hex,hcl,hr'⟩:=key
 have hput:∀t,(a.put (some d) x1).tmps[t]? = if t=d then(if d<a.tmps.size then some x1 else none)else a.tmps[t]? := fun t=>by
  simp only [Act.put,Qrt]
  by_cases e:d=t
  ·subst e;simp
  simp [e,Ne.symm e]
 have hev:(a.put (some d) x1).eval (.tmp d)=x1:=by
  have hlt:d<a.tmps.size:=by rw [hr.tmps];exact Qag hn
  simp [Act.eval,Act.put,Qpl,Qrt,hlt]
 have hex2:(execOp (a.put (some d) x1).eval o2).run P w=.ok (.value (.tuple #[])) w':=by
  simp only [execOp,ho2,resolve,invoke,builtin,Sem.run_bind,Sem.run_pure,Result.andThen_ok,List.map_toArray,Qgq,List.map_nil,hev,hcl]
 show wpListIn C.F 0 P ops (up C (unw P C Q ks)) (o1::o2::rest) a w
 simp only [wpListIn,Region.wanted,hg1,if_true]
 refine⟨fun _ _=>trivial,?_⟩
 rw [QwO hex,Oper.uponIn_value,hd1]
 simp only [wpListIn,Region.wanted,hg2,if_true]
 refine⟨fun _ _=>trivial,?_⟩
 rw [QwO hex2,Oper.uponIn_value,hd2]
 exact k _ _ ⟨φ,hr'.put (Qag hn) (.dat (.J x1))⟩
theorem QDQ {α:Type}{f:α->List V}{e:List α}{l k:Nat}{zs:List V}{x:α}{ms:List (Option Nat)}(h1:∀y,QdR ms (f y)=f y)(h2:QdR ms zs=f x):((e.map f).take l++List.replicate k zs).map (QdR ms)=(e.take l++List.replicate k x).map f:=by
 have h3:QdR ms∘f=f:=funext h1
 simp [List.map_take,h2,h3]
theorem QBQ {α:Type}{b l:Nat}{e:List α}{x:α}(h:l<=e.length):V.own b e.length=V.own b (e.take l++List.replicate (e.length-l) x).length:=by
 congr 1;simp;omega
end
end Go.Vm
namespace Go.Vm
open Go Go.RowKit Go.Proofs Go.Sort Go.Shelf
def Qkl (l:List Int):List Int:=l.mergeSort fun x y=>decide (x<=y)
def QrB (x:Int):List V:=[V.i .i64 x]
theorem Qyv (l:List Int):(Qkl l).length=l.length:=List.length_mergeSort ..
theorem QAi {P:Program}{ρ:Ren}(Ly:Lays.n189 P ρ)(zs:List Int)(hz:zs.length<4611686018427387904):
  Qc P (ρ.f 189) [.own 617 zs.length] [(617,.arr 1 (zs.map QrB))] (Gives (.tup []) [(617,.arr 1 ((Qkl zs).map QrB))]):=by
 intro S φ w vals hi _
 have hs:=hi.size
 obtain⟨v0,hv0⟩:∃v0,vals=#[v0]:=by
  obtain⟨l⟩:=vals
  match l,hs with
  | [x],_=>exact⟨x,rfl⟩
 subst hv0
 have ha:=hi.args 0 v0 _ rfl rfl
 rcases ha.own_inv with⟨hx,hn⟩|⟨B,hB,hn,hx⟩
 ·have h0:zs=[]:=List.eq_nil_of_length_eq_zero hn
  subst h0;subst hx
  refine(Any.slices_Sort_int_none Ly none 0 w).mono ?_
  rintro e w' ⟨rfl,rfl⟩
  refine⟨.tuple #[],.tup [],[(617,.arr 1 [])],φ,rfl,⟨rfl,fun c ob h=>by simpa [Qkl] using h⟩,rfl,rfl,rfl,Qc2 _,fun _ _ _=>rfl,hi.inj,fun o B h=>?_,fun o B k h hk=>?_,fun o B k h hk hlt=>?_,⟨fun o B _ h=>h,fun o ob B _ _ h=>h⟩,.dat (.tup _ _ rfl fun j x v h=>by simp at h),fun o ob h=>?_⟩
  ·obtain⟨_,_,ob,hob⟩:=hi.dom o B h;exact⟨ob,hob⟩
  ·obtain⟨_,h2,_⟩:=hi.dom o B h
   exact⟨(h2 k hk).1,fun _=>⟨o,B,h,hk⟩⟩
  ·obtain⟨h1,_,_⟩:=hi.dom o B h;omega
  have hS:∀k,S k->Aft S φ w' w' k/\w'.heap[k]? = w'.heap[k]? := fun k hk=>⟨⟨hi.lt k hk,fun _=>hk,fun o B h hb=>((hi.dom o B h).2.1 k hb).2 hk⟩,rfl⟩
  rcases hi.heap o ob h with⟨B,hB,hr⟩|hn
  ·exact .inl ⟨B,hB,hr.mono (fun _ _ h=>h) hS fun _ _=>rfl⟩
  exact .inr hn
 subst hx
 have hob:QbH φ S w B (.arr 1 (zs.map QrB)):=by
  rcases hi.heap 617 _ (Qv _ _ _)with⟨B',hB',hr⟩|⟨hn',_⟩
  ·rw [hB]at hB';cases hB';exact hr
  rw [hB]at hn';cases hn'
 obtain⟨hz1,hle,hok,cs,E,hb,hsz,hcell⟩:=hob
 have hlt:B.b<w.heap.size:=((hi.dom _ _ hB).2.1 _ B.self).1
 have hrow:∀(l:List Int) (i:Nat) (x:Int),l[i]? = some x->(l.map QrB)[i]? = some (QrB x):=fun l i x h=>by rw [Qau,h];rfl
 have hc:∀(i:Nat) x,zs[i]? = some x->cs[B.off+i]? = some (.int .i64 x):=fun i x h=>by
  obtain⟨y,hy,hd⟩:=hcell i _ (hrow _ i x h) 0 (.i .i64 x) rfl
  rw [show i*1+0=i by omega]at hy
  rw [hy];cases hd;rfl
 have hH:Holds (Value.int .i64) w B.b B.off zs.toArray:=fun j hj=>by
  have hj':j<zs.length:=by simpa using hj
  have h1:=hc j zs[j] (QM hj')
  have h2:zs.toArray[j]! = zs[j]:=by simp [hj']
  refine⟨?_,?_⟩
  ·rw [h2];simp [World.cell?,hb,h1]
  simp [World.frozen?,hb]
 refine(Any.slices_Sort_int Ly B.b B.off B.cap zs w hH hlt hz).mono ?_
 rintro e w' ⟨rfl,n,os,rfl⟩
 have hh:∀k,k<w.heap.size->(grow (putRow (Value.int .i64) (Sort.ahead w n) B.b B.off (Qkl zs).toArray) os).heap[k]? = (w.heap.modify B.b (onCells (putCells (Value.int .i64) B.off (Qkl zs).toArray)))[k]? := fun k hk=>by
  rw [heap_grow_old _ _ (by rw [size_putRow];exact hk)];rfl
 have ho:∀k,k<w.heap.size->k≠B.b->(grow (putRow (Value.int .i64) (Sort.ahead w n) B.b B.off (Qkl zs).toArray) os).heap[k]? = w.heap[k]? := fun k hk hne=>by
  rw [hh k hk,Array.getElem?_modify,if_neg (Ne.symm hne)]
 have hsize:w.heap.size<=(grow (putRow (Value.int .i64) (Sort.ahead w n) B.b B.off (Qkl zs).toArray) os).heap.size:=by
  rw [size_grow,size_putRow];exact Nat.le_add_right _ _
 have hme:(grow (putRow (Value.int .i64) (Sort.ahead w n) B.b B.off (Qkl zs).toArray) os).heap[B.b]? = some (.cells (putCells (Value.int .i64) B.off (Qkl zs).toArray cs) E (0,0)):=by
  rw [hh _ hlt,Array.getElem?_modify,if_pos rfl,hb];rfl
 have hall:∀o' B',φ o'=some B'->o'=617:=fun o' B' h'=>by
  obtain⟨_,_,ob,hob⟩:=hi.dom o' B' h'
  by_cases e:617=o'
  ·exact e.symm
  rw [Qt _ _ e]at hob;cases hob
 refine⟨.tuple #[],.tup [],[(617,.arr 1 ((Qkl zs).map QrB))],φ,rfl,⟨rfl,fun c ob h=>h⟩,rfl,rfl,rfl,hsize,fun k hk hno=>?_,hi.inj,fun o B h=>?_,fun o B k h hk=>?_,fun o B k h hk hl=>?_,⟨fun o B _ h=>h,fun o ob B _ _ h=>h⟩,.dat (.tup _ _ rfl fun j x v h=>by simp at h),fun o ob h=>?_⟩
 ·exact ho k hk fun e=>hno 617 B hB (e▸B.self)
 ·rw [hall o B h];exact⟨_,Qv _ _ _⟩
 ·obtain⟨_,h2,_⟩:=hi.dom o B h
  exact⟨QgY (h2 k hk).1 hsize,fun _=>⟨o,B,h,hk⟩⟩
 ·obtain⟨h1,_,_⟩:=hi.dom o B h;omega
 by_cases e:617=o
 ·subst e
  rw [Qv]at h;cases h
  refine .inl ⟨B,hB,hz1,?_,?_,_,E,hme,?_,?_⟩
  ·rw [QqC,Qyv];rw [QqC]at hle;exact hle
  ·intro r hr;obtain⟨x,_,rfl⟩:=QaN.1 hr
   exact⟨rfl,fun v hv=>by simp [QrB]at hv;subst hv;rfl⟩
  ·simpa [putCells] using hsz
  intro i r hi' j v hj
  rw [Qau]at hi'
  obtain⟨x,hx,rfl⟩:=Qax.1 hi'
  have hil:i<(Qkl zs).length:=(QX.1 hx).1
  have hil':i<zs.length:=by rw [Qyv]at hil;exact hil
  match j,hj with
  | 0,hj=>
   cases hj
   refine⟨.int .i64 x,?_,.i _ _⟩
   rw [show i*1+0=i by omega]
   have h1:=hc i zs[i] (QM hil')
   have h2:(Qkl zs).toArray[i]! = x:=by
    have:=QX.1 hx
    obtain⟨h3,h4⟩:=this
    simp [h3,h4]
   simp only [putCells,Array.getElem?_mapIdx,h1,Qgr]
   rw [if_pos ⟨by omega,by simp;omega⟩,show B.off+i-B.off=i by omega,h2]
  | j+1,hj=>simp [QrB]at hj
 rw [Qt _ _ e]at h;cases h
def QxY (x:Int):List Int->List Int
 | []=>[x]
 | y::l=>bif decide (x<=y)then x::y::l else y::QxY x l
def Qej : List Int->List Int
 | []=>[]
 | x::l=>QxY x (Qej l)
theorem Qyw (x:Int)(l:List Int):(QxY x l).Perm (x::l):=by
 induction l with
 | nil=>exact .refl _
 | cons y l ih=>
  rw [QxY]
  cases decide (x<=y)with
  | true=>exact .refl _
  | false=>exact(ih.cons y).trans (.swap x y l)
theorem QDj {x:Int}{l:List Int}(h:l.Pairwise (·<=·)):(QxY x l).Pairwise (·<=·):=by
 induction l with
 | nil=>exact List.pairwise_singleton _ _
 | cons y l ih=>
  obtain⟨h1,h2⟩:=List.pairwise_cons.1 h
  rw [QxY]
  cases c:decide (x<=y)with
  | true=>
   have c:=Qai c
   refine List.pairwise_cons.2 ⟨fun z hz=>?_,h⟩
   rcases Qbb.1 hz with rfl | hz
   ·exact c
   have:=h1 z hz;omega
  | false=>
   have c:=of_decide_eq_false c
   refine List.pairwise_cons.2 ⟨fun z hz=>?_,ih h2⟩
   rcases Qbb.1 ((Qyw x l).mem_iff.1 hz)with rfl | hz
   ·omega
   exact h1 z hz
theorem Qw2 (l:List Int):(Qej l).Perm l:=by
 induction l with
 | nil=>exact .refl _
 | cons x l ih=>exact(Qyw x _).trans (ih.cons x)
theorem QAj (l:List Int):(Qej l).Pairwise (·<=·):=by
 induction l with
 | nil=>exact List.Pairwise.nil
 | cons x l ih=>exact QDj ih
theorem QsR (l:List Int):Qej l=l.mergeSort fun x y=>decide (x<=y):=by
 refine List.Perm.eq_of_pairwise (le:=fun x y:Int=>x<=y) (fun a b _ _ h1 h2=>by omega) (QAj l) ?_ ((Qw2 l).trans (List.mergeSort_perm l _).symm)
 exact(List.pairwise_mergeSort (le:=fun x y:Int=>decide (x<=y)) (fun a b c h1 h2=>by simp at *;omega) (fun a b=>by simp;omega) l).imp fun h=>by simpa using h
theorem QhI (l:List Int):(Qej l).length=l.length:=(Qw2 l).length_eq
theorem QAk {P:Program}{ρ:Ren}(Ly:Lays.n189 P ρ)(zs:List Int)(hz:zs.length<4611686018427387904):
  Qc P (ρ.f 189) [.own 617 zs.length] [(617,.arr 1 (zs.map QrB))] (Gives (.tup []) [(617,.arr 1 ((Qej zs).map QrB))]):=by
 have h:=QAi Ly zs hz
 rw [show Qkl zs=Qej zs from(QsR zs).symm]at h
 exact h
def QzB (s:ByteArray):Bool:=decide (s.size<4294967281)&&s.data.toList.all fun b=>decide (b.toNat<128)
def Qgf (s:ByteArray):List ByteArray:=(Lib.fields s.data.toList).map fun l=>⟨l.toArray⟩
theorem QyQ {P:Program}{ρ:Ren}(Ly:Lays.n157 P ρ)(hi9:(P.info? (ρ.t 9)).map (fun i=>(i.zero,i.size,i.bytes))=some (some (.string ByteArray.empty),1,16))(hg:P.globalNamed "strings.asciiSpace" = some (ρ.g 0))(s:ByteArray)(hs:QzB s=true):
  Qc P (ρ.f 157) [.s s] [] (Gives (.own 600 (Qgf s).length) [(600,.arr 1 ((Qgf s).map fun x=>[V.s x]))]):=by
 intro S φ w vals hi hG
 have hsz:=hi.size
 obtain⟨v0,hv0⟩:∃v0,vals=#[v0]:=by
  obtain⟨l⟩:=vals
  match l,hsz with
  | [x],_=>exact⟨x,rfl⟩
 subst hv0
 have ha:=(hi.args 0 v0 _ rfl rfl).s_inv
 subst ha
 unfold QzB at hs
 rw [QB,decide_eq_true_iff,Q9]at hs
 obtain⟨hs1,hs2⟩:=hs
 obtain⟨_,hl,hT⟩:=hG _ hg
 have hno:∀o B,φ o≠some B:=fun o B h=>by obtain⟨_,_,ob,hob⟩:=hi.dom o B h;cases hob
 refine(Any.strings_Fields_core Ly hi9 s w hs1 (fun j b hb=>by simpa using hs2 b (Qaa hb)) hT).mono ?_
 rintro e w' ⟨rfl,rfl⟩
 have hlen:(Lib.fields s.data.toList).length=(Qgf s).length:=by unfold Qgf;simp
 rw [hlen]
 generalize hO:Obj.cells ((Lib.fields s.data.toList).map fun l=>Value.string ⟨l.toArray⟩).toArray (ρ.t 9)=O
 have hme:(w.alloc O).heap[w.heap.size]? = some O:=World.alloc_heap_new _ _
 have hold:∀k,k<w.heap.size->(w.alloc O).heap[k]? = w.heap[k]? := fun k hk=>Below.heap_alloc w O k hk
 have hsize:(w.alloc O).heap.size=w.heap.size+1:=by simp
 have hφ:∀o B,(ext (fun _=>none) 600 ⟨w.heap.size,(Qgf s).length,1,[],0⟩) o=some B->o=600/\B=⟨w.heap.size,(Qgf s).length,1,[],0⟩:=fun o B h=>by
  unfold ext at h
  split at h
  ·rename_i e;exact⟨e,(Option.some.inj h).symm⟩
  cases h
 have hhas:∀k,(⟨w.heap.size,(Qgf s).length,1,[],0⟩:Blk).has k->k=w.heap.size:=fun k hk=>Qpj hk
 refine⟨_,.own 600 (Qgf s).length,[(600,.arr 1 ((Qgf s).map fun x=>[V.s x]))],ext (fun _=>none) 600 ⟨w.heap.size,(Qgf s).length,1,[],0⟩,rfl,⟨rfl,fun c ob h=>h⟩,rfl,rfl,rfl,by rw [hsize];omega,fun k hk _=>hold k hk,fun o o' B B' k h1 h2 _ _=>by rw [(hφ o B h1).1,(hφ o' B' h2).1],fun o B h=>?_,fun o B k h hk=>?_,fun o B k h hk _=>?_,⟨fun o B h1 h2=>by obtain⟨rfl,_⟩:=hφ o B h2;omega,fun o ob B _ h2 h3=>absurd h3 (hno o B)⟩,.own _ _ _ (Q4 _ _ _) (Qc2 _),fun o ob h=>?_⟩
 ·rw [(hφ o B h).1];exact⟨_,Qv _ _ _⟩
 ·obtain⟨_,rfl⟩:=hφ o B h
  have:=hhas k hk
  rw [hsize];exact⟨by omega,fun h=>by omega⟩
 ·obtain⟨_,rfl⟩:=hφ o B h
  have:=hhas k hk;omega
 by_cases e:600=o
 ·subst e
  rw [Qv]at h;cases h
  refine .inl ⟨_,Q4 _ _ _,rfl,by simp,fun r hr=>?_,_,_,by rw [hme,<-hO],by rw [<-hlen];simp,fun i r hi' j v hj=>?_⟩
  ·obtain⟨x,_,rfl⟩:=QaN.1 hr
   exact⟨rfl,fun v hv=>by simp at hv;subst hv;rfl⟩
  rw [Qau]at hi'
  obtain⟨x,hx,rfl⟩:=Qax.1 hi'
  match j,hj with
  | 0,hj=>
   cases hj
   refine⟨.string x,?_,.s _⟩
   unfold Qgf at hx
   rw [Qau]at hx
   obtain⟨l,hl',rfl⟩:=Qax.1 hx
   simp [hl']
  | j+1,hj=>simp at hj
 rw [Qt _ _ e]at h;cases h
section
variable {P:Program}{C:Ctx}{σ:St}{o:Oper}
theorem Stp.storeNil {T b i off z zz:Nat}{x y:Operand}{rs rs':List (List V)}{r:List V}(ho:o.op=.store T x y)(hd:o.dst=none)(hx:σ.opd x=some (.loc b i off))
  (hb:look σ.hp b=some (.arr z rs)) (hi:rs[i]? = some r) (hy:σ.opd y=some (.lit (.slice none 0 0))) (hs:QfS P T=some 1) (hle:Nat.ble (off+1) z=true) (he:rs.set i (Qcw r off [.sl zz []])=rs'):Stp P C o σ (σ.set b (.arr z rs')):=
 Stp.storeAV (v:=.sl zz []) ho hd hx hb hi (fun φ a w hr=>by rw [(hr.opd hy).lit_inv];exact .dat (.sl0 none 0 zz)) (.inl rfl) hs rfl rfl rfl hle he
theorem Stp.max3 {d:Nat}{x y z:Operand}{k:IntKind}{m n q:Int}{ts:Array TypeId}(ho:o.op=.call { callee:=.builtin .max,args:=#[x,y,z],argTypes:=ts })(hd:o.dst=some d)(hn:Nat.ble (d+1) C.n=true)
  (hx:σ.opd x=some (.i k m)) (hy:σ.opd y=some (.i k n)) (hz:σ.opd z=some (.i k q)):Stp P C o σ (σ.put d (.i k (Vm.max2 (Vm.max2 m n) q))):=by
 refine Stp.same hd hn fun φ a w hr=>⟨.int k (Vm.max2 (Vm.max2 m n) q),?_,.dat (.i _ _)⟩
 simp [execOp,ho,(hr.opd hx).i_inv,(hr.opd hy).i_inv,(hr.opd hz).i_inv,resolve,invoke,builtin,Builtin.max_,Builtin.max2,Vm.max2]
end
end Go.Vm
namespace Go.Vm
open Go Go.RowKit
def Cl (w:World)(cs:List Value)(vs:List V):Prop:=cs.length=vs.length/\∀(j:Nat) c v,cs[j]? = some c->vs[j]? = some v->Dat (fun k=>k<w.heap.size) w c v
theorem Cl.nil {w:World}:Cl w [] []:=⟨rfl,fun j c v h _=>by simp at h⟩
theorem Cl.one {w:World}{c:Value}{v:V}(h:Dat (fun k=>k<w.heap.size) w c v):Cl w [c] [v]:=⟨rfl,fun j c' v' h1 h2=>by
 match j with
 | 0=>simp at h1 h2;subst h1;subst h2;exact h
 | j+1=>simp at h1⟩
theorem Cl.append {w:World}{a b:List Value}{u v:List V}(h1:Cl w a u)(h2:Cl w b v):Cl w (a++b) (u++v):=by
 refine⟨by simp [h1.1,h2.1],fun j c x hc hx=>?_⟩
 by_cases hj:j<a.length
 ·rw [QbS hj]at hc
  rw [QbS (by rw [<-h1.1];exact hj)]at hx
  exact h1.2 j c x hc hx
 rw [QbY (by omega)]at hc
 rw [QbY (by rw [<-h1.1];omega)]at hx
 rw [<-h1.1]at hx
 exact h2.2 _ c x hc hx
def Rd {H α:Type}(enc:TypeId×Value->H)(P:Program)(w:World)(N:Nat)(t:TypeId)(row:α->List V)(wf:α->DataW H->Prop):Prop:=
 ∀(fuel:Nat) (cs:List Value) (d:DataW H) (ps:List MemPlace),fuel<=N->DataW.trod enc P w 0 (fun _=>true) true fuel t cs=some (d,ps)->∃x,wf x d/\Cl w cs (row x)
def RdF {H α:Type}(enc:TypeId×Value->H)(P:Program)(w:World)(N:Nat)(off tot:Nat)(fs:List (Nat×Nat))(row:α->List V)(wf:α->List (DataW H)->Prop):Prop:=
 ∀(fuel:Nat) (cs:List Value) (xs:List (DataW H×List MemPlace)),fuel<=N->cs.length=off+tot->(fs.mapM fun f=>DataW.trod enc P w 0 (fun _=>true) true fuel f.1 ((cs.drop f.2).take (P.cellsOf f.1)))=some xs->
  ∃x,wf x (xs.map Prod.fst)/\Cl w (cs.drop off) (row x)
section
variable {H:Type}{enc:TypeId×Value->H}{P:Program}{w:World}{N:Nat}{t:TypeId}
theorem Rd.mono {α:Type}{M:Nat}{row:α->List V}{wf:α->DataW H->Prop}(h:Rd enc P w N t row wf)(hM:M<=N):Rd enc P w M t row wf:=fun fuel cs d ps hf e=>h fuel cs d ps (QcA hf hM) e
theorem Rd.zero {α:Type}{row:α->List V}{wf:α->DataW H->Prop}:Rd enc P w 0 t row wf:=fun fuel cs d ps hf e=>by
 have:fuel=0:=by omega
 subst this
 simp [DataW.trod]at e
theorem Rd.map {α β:Type}{row:α->List V}{wf:α->DataW H->Prop}{row':β->List V}{wf':β->DataW H->Prop}(g:α->β)(h:Rd enc P w N t row wf)(hr:∀x,row x=row' (g x))(hw:∀x d,wf x d->wf' (g x) d):Rd enc P w N t row' wf':=fun fuel cs d ps hf e=>by
 obtain⟨x,h1,h2⟩:=h fuel cs d ps hf e
 exact⟨g x,hw x d h1,by rw [<-hr];exact h2⟩
theorem Rd.int {k:IntKind}(ht:P.underlying t=some (.int k)):Rd enc P w N t (fun n:Int=>[V.i k n]) (fun n d=>(Lit.int k n).wf=true/\d=.lit (.int k n)):=by
 intro fuel cs d ps _ e
 cases fuel with
 | zero=>simp [DataW.trod]at e
 | succ fuel=>
  simp only [DataW.trod,ht]at e
  split at e
  all_goals first | (cases e;done) | (rename_i hq;cases hq;done) | skip
  rename_i hq
  cases hq
  split at e
  ·rename_i hc
   obtain⟨rfl,hwf⟩:=hc
   cases e
   exact⟨_,⟨hwf,rfl⟩,Cl.one (.i _ _)⟩
  cases e
theorem Rd.bool (ht:P.underlying t=some .bool):Rd enc P w N t (fun n:Bool=>[V.b n]) (fun n d=>d=.lit (.bool n)):=by
 intro fuel cs d ps _ e
 cases fuel with
 | zero=>simp [DataW.trod]at e
 | succ fuel=>
  simp only [DataW.trod,ht]at e
  split at e
  all_goals first | (cases e;done) | (rename_i hq;cases hq;done) | skip
  cases e
  exact⟨_,rfl,Cl.one (.b _)⟩
theorem Rd.string (ht:P.underlying t=some .string):Rd enc P w N t (fun n:ByteArray=>[V.s n]) (fun n d=>n.size<=maxLen/\d=.lit (.string n.data.toList)):=by
 intro fuel cs d ps _ e
 cases fuel with
 | zero=>simp [DataW.trod]at e
 | succ fuel=>
  simp only [DataW.trod,ht]at e
  split at e
  all_goals first | (cases e;done) | (rename_i hq;cases hq;done) | skip
  split at e
  ·rename_i hc
   cases e
   exact⟨_,⟨hc,rfl⟩,Cl.one (.s _)⟩
  cases e
theorem QDR {α:Type}{Q:Nat->α->Prop}:∀n:Nat,(∀i,i<n->∃x,Q i x)->∃l:List α,l.length=n/\∀i x,l[i]? = some x->Q i x:=by
 intro n
 induction n with
 | zero=>intro _;exact⟨[],rfl,fun i x h=>by simp at h⟩
 | succ n ih=>
  intro h
  obtain⟨l,h1,h2⟩:=ih fun i hi=>h i (by omega)
  obtain⟨x,hx⟩:=h n (by omega)
  refine⟨l++[x],by simp [h1],fun i y hy=>?_⟩
  by_cases hi:i<l.length
  ·rw [QbS hi]at hy;exact h2 i y hy
  have:=(QX.1 hy).1
  simp at this
  have:i=l.length:=by omega
  subst this
  simp at hy;subst hy;rw [h1];exact hx
def wfL {α:Type}(wf:α->DataW H->Prop)(l:List α)(d:DataW H):Prop:=l.length<=maxLen/\((d=.nil/\l=[])\/∃es sp,d=.slice es sp/\es.length=l.length/\∀(i:Nat) x e,l[i]? = some x->es[i]? = some e->wf x e)
theorem Rd.slice {α:Type}{e z:Nat}{row:α->List V}{wf:α->DataW H->Prop}(ht:P.underlying t=some (.slice e))(hz:P.cellsOf e=z)(hz0:0<z)(hrow:∀x,Qfe z (row x))(he:Rd enc P w N e row wf):
  Rd enc P w N t (fun l:List α=>[V.sl z (l.map row)]) (wfL wf):=by
 subst hz
 intro fuel cs d ps hN h
 cases fuel with
 | zero=>simp [DataW.trod]at h
 | succ fuel=>
  simp only [DataW.trod,ht]at h
  split at h
  all_goals first | (cases h;done) | (rename_i hq;cases hq;done) | skip
  ·cases h;exact⟨[],⟨Nat.zero_le _,.inl ⟨rfl,rfl⟩⟩,Cl.one (.sl0 _ _ _)⟩
  rename_i a len cap hq
  cases hq
  split at h
  ·rename_i hc
   obtain⟨_,hlc,hcm⟩:=hc
   obtain⟨elems,hel,h⟩:=Qo5.1 h
   obtain⟨rest,_,h⟩:=Qax.1 h
   have hlen:elems.length=len:=by simpa using mapM_some_length hel
   have hat:∀i,i<len->∃y rc,elems[i]? = some y/\w.cells? 0 (a.add (i*P.cellsOf e)) (P.cellsOf e)=some rc/\DataW.trod enc P w 0 (fun _=>true) true fuel e rc=some y:=fun i hi=>by
    have:=mapM_some_get hel i i (by simp [hi])
    obtain⟨y,hy⟩:∃y,elems[i]? = some y:=⟨_,QM (by omega)⟩
    rw [hy]at this
    obtain⟨rc,h1,h2⟩:=Qo5.1 this
    exact⟨y,rc,hy,h1,h2⟩
   obtain⟨l,hl,hQ⟩:=QDR (Q:=fun i x=>∃y rc,elems[i]? = some y/\w.cells? 0 (a.add (i*P.cellsOf e)) (P.cellsOf e)=some rc/\wf x y.1/\Cl w rc (row x)) len fun i hi=>by
    obtain⟨y,rc,h1,h2,h3⟩:=hat i hi
    obtain⟨x,h4,h5⟩:=he fuel rc y.1 y.2 (by omega) h3
    exact⟨x,y,rc,h1,h2,h4,h5⟩
   have hd:d=.slice (elems.map (·.1)) (rest.map (·.1)):=by cases h;rfl
   refine⟨l,⟨by omega,.inr ⟨_,_,hd,by simp [hl,hlen],fun i x e' hx he'=>?_⟩⟩,Cl.one ?_⟩
   ·obtain⟨y,rc,h1,_,h3,_⟩:=hQ i x hx
    rw [Qau,h1]at he'
    cases he';exact h3
   by_cases h0:len=0
   ·have:l=[]:=Qmh.1 (by omega)
    subst this;subst h0;exact .sl0 _ _ _
   obtain⟨b,off,spot⟩:=a
   obtain⟨y0,rc0,_,h02,_⟩:=hat 0 (by omega)
   have hs:spot=none:=by
    obtain⟨_,h2,h3⟩:=World.cells?_some h02
    have h4:=h3 0 hz0
    obtain⟨c0,hc0⟩:∃c0,rc0[0]? = some c0:=⟨_,QM (by omega)⟩
    rw [hc0]at h4
    simpa [Addr.add] using World.cell?_spot h4
   subst hs
   have hb:b<w.heap.size:=by
    have hb:=World.cells?_block h02 hz0
    rwa [WideShapes.add_plain]at hb
   have hcell:∀i,i<len->∀rc,w.cells? 0 ((⟨b,off,none⟩:Addr).add (i*P.cellsOf e)) (P.cellsOf e)=some rc->rc.length=P.cellsOf e/\∀j,j<P.cellsOf e->w.cell? ⟨b,off+(i*P.cellsOf e+j),none⟩=rc[j]? := fun i hi rc h=>by
    obtain⟨_,h2,h3⟩:=World.cells?_some h
    refine⟨h2,fun j hj=>?_⟩
    have:=h3 j hj
    rw [WideShapes.add_plain,WideShapes.add_plain]at this
    rw [<-Qo4];exact this
   refine .sl b off len cap (P.cellsOf e) (l.map row) (fun j=>(w.cell? ⟨b,off+j,none⟩).getD undef) hb (by simp [hl]) hlc (fun r hr=>by obtain⟨x,_,rfl⟩:=QaN.1 hr;exact hrow x) (fun j hj=>?_) (fun i r hr j v hv=>?_)
   ·have hij:j / P.cellsOf e<len:=Nat.div_lt_of_lt_mul (by rw [Nat.mul_comm];exact hj)
    obtain⟨y,rc,_,h2,_⟩:=hat (j / P.cellsOf e) hij
    obtain⟨h3,h4⟩:=hcell _ hij rc h2
    have h5:=h4 (j % P.cellsOf e) (Nat.mod_lt _ hz0)
    rw [Nat.mul_comm (j / P.cellsOf e),Nat.div_add_mod]at h5
    rw [h5]
    have:j % P.cellsOf e<rc.length:=by rw [h3];exact Nat.mod_lt _ hz0
    rw [QM this];rfl
   rw [Qau]at hr
   obtain⟨x,hx,rfl⟩:=Qax.1 hr
   have hi:i<len:=by rw [<-hl];exact(QX.1 hx).1
   obtain⟨y,rc,_,h2,_,h3⟩:=hQ i x hx
   obtain⟨h4,h5⟩:=hcell i hi rc h2
   have hj:j<P.cellsOf e:=by rw [<-(hrow x).1];exact(QX.1 hv).1
   have h6:=h5 j hj
   obtain⟨c,hc⟩:∃c,rc[j]? = some c:=⟨_,QM (by omega)⟩
   rw [hc]at h6
   show Dat _ w ((w.cell? ⟨b,off+(i*P.cellsOf e+j),none⟩).getD undef) v
   rw [h6]
   exact h3.2 j c v hc hv
  cases h
theorem RdF.nil {off:Nat}:RdF enc P w N off 0 [] (fun _:Unit=>[]) (fun _ xs=>xs=[]):=fun fuel cs xs _ hl h=>by
 simp at h
 subst h
 exact⟨(),rfl,by rw [List.drop_of_length_le (by omega)];exact Cl.nil⟩
theorem RdF.cons {α β:Type}(t off z:Nat){tot:Nat}{fs:List (Nat×Nat)}{row1:α->List V}{row2:β->List V}{wf1:α->DataW H->Prop}{wf2:β->List (DataW H)->Prop}(hz:P.cellsOf t=z)
  (h1:Rd enc P w N t row1 wf1) (h2:RdF enc P w N (off+z) tot fs row2 wf2):RdF enc P w N off (z+tot) ((t,off)::fs) (fun x:α×β=>row1 x.1++row2 x.2) (fun x ds=>∃d r,ds=d::r/\wf1 x.1 d/\wf2 x.2 r):=by
 intro fuel cs xs hN hl h
 subst hz
 rw [List.mapM_cons]at h
 obtain⟨y,hy,h⟩:=Qo5.1 h
 obtain⟨ys,hys,h⟩:=Qo5.1 h
 cases h
 obtain⟨x1,a1,a2⟩:=h1 fuel _ y.1 y.2 hN hy
 obtain⟨x2,b1,b2⟩:=h2 fuel cs ys hN (by omega) hys
 refine⟨(x1,x2),⟨y.1,ys.map Prod.fst,rfl,a1,b1⟩,?_⟩
 have:cs.drop off=(cs.drop off).take (P.cellsOf t)++cs.drop (off+P.cellsOf t):=by
  rw [<-List.drop_drop,List.take_append_drop]
 rw [this]
 exact a2.append b2
def Qvc (P:Program)(t:TypeId)(fs:List (Nat×Nat))(tot:Nat):Bool:=match P.underlying t with
 | some (.struct gs)=>(gs.toList.map fun f=>(f.type,f.offset))==fs&&P.cellsOf t==tot
 | _=>false
theorem QvR {t tot:Nat}{fs:List (Nat×Nat)}(h:Qvc P t fs tot=true):∃gs,P.underlying t=some (.struct gs)/\(gs.toList.map fun f=>(f.type,f.offset))=fs/\P.cellsOf t=tot:=by
 unfold Qvc at h
 split at h
 ·rename_i gs hg
  rw [QB,beq_iff_eq,beq_iff_eq]at h
  exact⟨gs,hg,h.1,h.2⟩
 cases h
theorem Rd.struct {α:Type}{fs:List (Nat×Nat)}{tot:Nat}{row:α->List V}{wf:α->List (DataW H)->Prop}(hB:Qvc P t fs tot=true)(hf:RdF enc P w N 0 tot fs row wf):
  Rd enc P w (N+1) t row (fun x d=>∃ds,d=.agg ds/\wf x ds):=by
 obtain⟨gs,ht,hfs,hc⟩:=QvR hB
 intro fuel cs d ps hN h
 cases fuel with
 | zero=>simp [DataW.trod]at h
 | succ fuel=>
  simp only [DataW.trod,ht]at h
  split at h
  ·rename_i hl
   obtain⟨xs,hxs,h⟩:=Qax.1 h
   cases h
   obtain⟨x,a1,a2⟩:=hf fuel cs xs (by omega) (by rw [hl,hc];omega) (by rw [<-hfs,List.mapM_map];exact hxs)
   exact⟨x,⟨_,rfl,a1⟩,a2⟩
  cases h
def QzC (P:Program)(t e n tot:Nat)(fs:List (Nat×Nat)):Bool:=match P.underlying t with
 | some (.array m e')=>m==n&&e'==e&&P.cellsOf t==tot&&((List.range n).map fun i=>(e,i*P.cellsOf e))==fs
 | _=>false
theorem QA5 {t e n tot:Nat}{fs:List (Nat×Nat)}(h:QzC P t e n tot fs=true):P.underlying t=some (.array n e)/\P.cellsOf t=tot/\((List.range n).map fun i=>(e,i*P.cellsOf e))=fs:=by
 unfold QzC at h
 split at h
 ·rename_i m e' hg
  simp only [QB,beq_iff_eq]at h
  obtain⟨⟨⟨rfl,rfl⟩,h⟩,h2⟩:=h
  exact⟨hg,h,h2⟩
 cases h
theorem Rd.array {α:Type}{e n tot:Nat}{fs:List (Nat×Nat)}{row:α->List V}{wf:α->List (DataW H)->Prop}(hB:QzC P t e n tot fs=true)(hf:RdF enc P w N 0 tot fs row wf):
  Rd enc P w (N+1) t row (fun x d=>∃ds,d=.agg ds/\wf x ds):=by
 obtain⟨ht,hc,hfs⟩:=QA5 hB
 intro fuel cs d ps hN h
 cases fuel with
 | zero=>simp [DataW.trod]at h
 | succ fuel=>
  simp only [DataW.trod,ht]at h
  split at h
  ·rename_i hl
   obtain⟨xs,hxs,h⟩:=Qax.1 h
   cases h
   obtain⟨x,a1,a2⟩:=hf fuel cs xs (by omega) (by rw [hl,hc];omega) (by rw [<-hfs,List.mapM_map];exact hxs)
   exact⟨x,⟨_,rfl,a1⟩,a2⟩
  cases h
def okI (k:IntKind)(n:Int):Prop:=k.min<=n/\n<=k.max
def okS (s:ByteArray):Prop:=s.size<=maxLen
def okL {α:Type}(ok:α->Prop)(l:List α):Prop:=l.length<=maxLen/\∀x∈l,ok x
theorem QDS {k:IntKind}{n:Int}{d:DataW H}(h:(Lit.int k n).wf=true/\d=.lit (.int k n)):okI k n:=by
 have:=h.1
 simp only [Lit.wf,QB,Q0]at this
 exact this
theorem QjK {α:Type}{ok:α->Prop}{l:List α}{d:DataW H}(h:wfL (fun x _=>ok x) l d):okL ok l:=by
 refine⟨h.1,fun x hx=>?_⟩
 rcases h.2 with⟨_,rfl⟩|⟨es,sp,_,h3,h4⟩
 ·simp at hx
 obtain⟨i,hi⟩:=Qlu.1 hx
 have hlt:i<es.length:=by rw [h3];exact(QX.1 hi).1
 exact h4 i x _ hi (QM hlt)
theorem QzD {w:World}{r:Reach}{base t tot:Nat}{v:Value}{fs:List (Nat×Nat)}(h:Qvc P t fs tot=true)(hv:Value.okWide P w r base t v):∃cs,v=.agg cs:=by
 obtain⟨gs,h1,_⟩:=QvR h
 obtain⟨cs,h2,_⟩:=WideShapes.okWide_struct h1 hv
 exact⟨cs,h2⟩
theorem Qla {z:Nat}{r:List V}(h:(Nat.beq r.length z&&r.all V.one)=true):Qfe z r:=by
 rw [QB,Q9]at h
 exact⟨QaD h.1,h.2⟩
end
section
variable {H:Type}{enc:TypeId×Value->H}{P:Program}
theorem Qc.law {f:FuncId}{us:List V}{args:Array Value}{W:World}(h:Qc P f us [] (Gives (.b true) []))(hG:Qn7 P (fun k=>k<W.heap.size) W)(hs:args.size=us.length)
  (ha:∀(j:Nat) x v,args[j]? = some x->us[j]? = some v->Dat (fun k=>k<W.heap.size) W x v):Calls P f args W fun e w'=>e=.returned (.bool true)/\Below W.heap.size W w':=by
 refine(h (fun k=>k<W.heap.size) (fun _=>none) W args ⟨fun k hk=>hk,fun _ _ _ _ _ h=>(by cases h),fun _ _ h=>(by cases h),hs,fun j x v h1 h2=>.dat (ha j x v h1 h2),fun _ _ h=>(by cases h)⟩ hG).mono ?_
 rintro e w' ⟨x,v,hs',φ',rfl,⟨rfl,_⟩,out⟩
 exact⟨by rw [out.rep.b_inv],out.os,out.tape,out.output,out.size,fun k hk=>out.kept k hk fun _ _ h=>by cases h⟩
theorem Qtj (hl:laidOutB P=true){W W':World}(hb:Below W.heap.size W W'):∀{ts:List TypeId} {vs:List Value} {ds:List (DataW H)} {ps:List MemPlace},(∀t∈ts,P.readableRec t=true/\t<P.types.size)->
  DataW.TrodAll enc P W 0 (fun _=>true) true ts vs ds ps->(∀x∈ps,x.block<W.heap.size)->DataW.TrodAll enc P W' 0 (fun b=>decide (b<W.heap.size)) true ts vs ds ps
 | [],[],[],_,_,h,_=>h
 | t::ts,v::vs,d::ds,_,hr,⟨p,q,h1,h2,e⟩,hlt=>⟨p,q,Below.trod hl (hr t (Qb9)).1 (hr t (Qb9)).2 h1 hb (fun x hx=>hlt x (by rw [e];exact List.mem_append_left _ hx)),
   Qtj hl hb (fun t ht=>hr t (QcN _ ht)) h2 (fun x hx=>hlt x (by rw [e];exact List.mem_append_right _ hx)),e⟩
theorem QCP {f:Func}{s:ChangeSpec}{apart fresh:Bool}{W W':World}{args:Array Value}{ds:List (DataW H)}{before:List MemPlace}{tb:TypeId}(hl:laidOutB P=true)(hr:∀t∈f.params.toList,P.readableRec t=true/\t<P.types.size)
  (hW:DataW.Whole enc P f.params.toList s.vars apart W args.toList ds [] before) (hv:s.vars=[]) (hb:Below W.heap.size W W') (hrt:f.resultTypes=#[tb]) (htb:P.underlying tb=some .bool)
  (hres:(s.fn H (ds++[])).results=[.lit (.bool true)]) (hargs:(s.fn H (ds++[])).args=ds) (hvars:(s.fn H (ds++[])).vars=[]):s.post enc P f apart fresh false false W args (.bool true) W':=by
 have hW0:=hW
 obtain⟨p,q,hA,hV,rfl,_,_⟩:=hW
 have hlt:=hW0.lt
 rw [hv]at hV
 have hq:q=[]:=hV
 subst hq
 refine⟨ds,[],_,[],p,[],hW0,?_,?_,?_,?_,fun h=>by cases h⟩
 ·rw [hres,hrt]
  exact⟨[],[],shut_bool htb true,rfl,rfl⟩
 ·rw [hargs]
  exact Qtj hl hb hr hA fun x hx=>hlt x (List.mem_append_left _ hx)
 ·rw [hvars,hv];rfl
 exact World.keptBut_mono (fun p hp=>hp.elim) (hb.frame (fun _=>False))
theorem Cl.arg1 {w:World}{v:Value}{x:V}(hv:v.cells.toList=[v])(h:Cl w v.cells.toList [x]):Dat (fun k=>k<w.heap.size) w v x:=h.2 0 v x (by rw [hv];rfl) rfl
theorem Cl.argS {w:World}{cs:Array Value}{vs:List V}(h:Cl w (Value.agg cs).cells.toList vs):Dat (fun k=>k<w.heap.size) w (.agg cs) (.agg vs):=by
 refine .agg cs vs (by simpa [Value.cells] using h.1) fun j x v hx hv=>h.2 j x v (by simpa [Value.cells] using hx) hv
theorem Rd.open {α:Type}{w:World}{t:TypeId}{row:α->List V}{wf:α->DataW H->Prop}{v:Value}{d:DataW H}{p:List MemPlace}(h:∀N,Rd enc P w N t row wf)(hd:DataW.Trod enc P w 0 (fun _=>true) true t v d p):∃x,wf x d/\Cl w v.cells.toList (row x):=by
 obtain⟨n,hn⟩:=hd
 exact h n n _ _ _ (Qc2 _) hn
end
end Go.Vm
namespace Go.Vm
open Go Go.RowKit
section
variable {P:Program}{C:Ctx}{Q:Exit->St->Prop}{σ:St}{ks:List Fr}{o:Oper}
theorem Qyx {σ':St}{φ φ':Prop}{d f:Nat}{vs us:List V}{M N:List (Nat×Nat)}{dead:List Nat}{ms:List Qe3}{outs hsC:List (Nat×Ob)}{r:V}
  (hus:Qmr (bkM M) ms vs=some us) (hC:QiH (bkM M) (look σ.hp) M=some hsC)
  (e:cmV P σ φ d f vs M N dead ms outs r=some (σ',φ')):∃hsN r',QdS σ M N dead outs=true/\(M.map Prod.fst).Nodup/\Vws σ.hp false false (Qe1 M) (fun a b=>look M b=some a) vs us/\QkX σ.hp false false (Qe1 M) (fun a b=>look M b=some a) σ.hp M hsC/\
   QkX [] false false [] (fun c b=>look N b=some c) outs N hsN/\Vw [] false false [] (fun c b=>look N b=some c) r r'/\σ'=(σ.after dead hsN).put d r':=by
 unfold cmV at e
 replace e:=Qad e;obtain⟨e1,e⟩:=e
 simp only [QB]at e1
 obtain⟨⟨h1,h2⟩,h3⟩:=e1
 have h2:=QcP.1 h2
 have h3:=QcP.1 h3
 have inj:QhN M=true/\QhN N=true:=by
  simp only [QdS,QB]at h1
  exact⟨h1.1.1.1,h1.1.1.2⟩
 have mM:∀a b,bkM M a=some b->look M b=some a:=fun a b h=>QbP inj.1 (Qgd h) h2
 have mN:∀a b,bkM N a=some b->look N b=some a:=fun a b h=>QbP inj.2 (Qgd h) h3
 simp only [hus,hC]at e
 split at e
 ·rename_i hsN hN
  split at e
  ·rename_i r' hr
   cases e
   exact⟨hsN,r',h1,h2,QiA mM hus,Qdh mM hC,Qdh mN hN,Ql8 mN hr,rfl⟩
  cases e
 cases e
theorem AK.callE {ι:Type}[Inhabited ι]{Φ:ι->Prop}{d f n:Nat}{ops:Array Oper}{rest:List Oper}{vs us:List V}{hsC:List (Nat×Ob)}(M N:List (Nat×Nat))(dead:List Nat)(ms:List Qe3)(outs:ι->List (Nat×Ob))(r:ι->V)(σ':ι->St)
  (hg:o.guard=none) (hCn:Qdg P C n) (hE:QaS P C o σ f vs) (hd:o.dst=some d) (hn:Nat.ble (d+1) C.n=true)
  (hus:Qmr (bkM M) ms vs=some us) (hC:QiH (bkM M) (look σ.hp) M=some hsC)
  (hc:Qc P f us hsC fun v hs=>∃x,Φ x/\Gives (r x) (outs x) v hs)
  (e:∀x,∃φ',cmV P σ True d f vs M N dead ms (outs x) (r x)=some (σ' x,φ'))
  (k:∀x,Φ x->AK P C Q (.o ops rest) ks (σ' x)):AK P C Q (.o ops (o::rest)) ks σ:=by
 intro a w ⟨φ,hr⟩
 simp only [wpListIn,Region.wanted,hg,if_true]
 refine⟨fun _ _=>trivial,?_⟩
 obtain⟨vals,hex,h1,h2⟩:=hE φ a w hr
 rw [QrP hex,Oper.uponIn_enter]
 obtain⟨_,e0⟩:=e default
 obtain⟨_,_,n1,n2,hv,hobs,_,_,_⟩:=Qyx hus hC e0
 have hN0:=Names.of n1 n2
 refine⟨(fun h=>by cases h),Qpq ((hc _ _ w _ (Ins.of_vals hr h1 h2 hN0.injM hN0.param hv hobs) ((hr.glob hCn.g).mono fun _ h=>.inl h)).mono ?_)⟩
 rintro e' w' ⟨x,v,hs',φ',rfl,⟨i,hΦ,rfl,hso⟩,hout⟩
 obtain⟨_,ei⟩:=e i
 obtain⟨hsN,r',n1,n2,_,_,hback,hr',hσ⟩:=Qyx hus hC ei
 have hN:=Names.of n1 n2
 obtain⟨h3,h4⟩:=hr.after hN hout hso (fun c s h=>by
  obtain⟨ob',e1⟩:=hobs.get.2 c s h
  obtain⟨s',ob,e2,e3,_⟩:=hobs.get.1 c ob' e1
  rw [h]at e2;cases e2;exact⟨ob,e3⟩) hback
 refine k i hΦ _ _ ⟨QkY φ M N dead φ',?_⟩
 rw [hd,hσ]
 exact h3.put (Qag hn) (h4 hr')
theorem Qyy {σ':St}{φ':Prop}{f:Nat}{vs us:List V}{M N:List (Nat×Nat)}{dead:List Nat}{ms:List Qe3}{outs hsC:List (Nat×Ob)}{r:V}
  (hus:Qmr (bkM M) ms vs=some us) (hC:QiH (bkM M) (look σ.hp) M=some hsC)
  (e:rgV P σ f vs M N dead ms outs r=some (σ',φ')):∃hsN,QdS σ M N dead outs=true/\(M.map Prod.fst).Nodup/\Vws σ.hp false false (Qe1 M) (fun a b=>look M b=some a) vs us/\QkX σ.hp false false (Qe1 M) (fun a b=>look M b=some a) σ.hp M hsC/\
   QkX [] false false [] (fun c b=>look N b=some c) outs N hsN/\σ'=σ.after dead hsN:=by
 unfold rgV at e
 replace e:=Qad e;obtain⟨e1,e⟩:=e
 simp only [QB]at e1
 obtain⟨⟨h1,h2⟩,h3⟩:=e1
 have h2:=QcP.1 h2
 have h3:=QcP.1 h3
 have inj:QhN M=true/\QhN N=true:=by
  simp only [QdS,QB]at h1
  exact⟨h1.1.1.1,h1.1.1.2⟩
 have mM:∀a b,bkM M a=some b->look M b=some a:=fun a b h=>QbP inj.1 (Qgd h) h2
 have mN:∀a b,bkM N a=some b->look N b=some a:=fun a b h=>QbP inj.2 (Qgd h) h3
 simp only [hus,hC]at e
 split at e
 ·rename_i hsN hN
  cases e
  exact⟨hsN,h1,h2,QiA mM hus,Qdh mM hC,Qdh mN hN,rfl⟩
 cases e
theorem AK.rangeFE {ι:Type}[Inhabited ι]{Φ:ι->Prop}{g:Operand}{ps:Array Tmp}{assign body:Code}{f n:Nat}{fs cps:List V}(b:Nat)(ts:List Nat)(M N:List (Nat×Nat))(dead:List Nat)(ms:List Qe3)(K:Nat->QgZ)(hCn:Qdg P C n)(hrnd:C.rnd=none)(hK:∀fn,K fn=⟨fn,ps,assign,body⟩)
  (hg:σ.opd g=some (.clo (.func f) fs cps)) (he:Qrw P f=true) (hb:look σ.hp b=none) (hb2:Nat.ble 617 b=false)
  (H:∀l fn,∃(outs:ι->List (Nat×Ob)) (r:ι->V) (σ2:ι->St) (us:List V) (hsC:List (Nat×Ob)),Qmr (bkM M) ms (fs++(.clo (.yield l) [] []::cps))=some us/\QiH (bkM M) (look (σ.set b (.lp l (K fn) (snap ts σ.fr n) 0)).hp) M=some hsC/\
   Qc P f us hsC (fun v hs=>∃x,Φ x/\Gives (r x) (outs x) v hs)/\∀x,∃φ2 cs2 q,rgV P (σ.set b (.lp l (K fn) (snap ts σ.fr n) 0)) f (fs++(.clo (.yield l) [] []::cps)) M N dead ms (outs x) (r x)=some (σ2 x,φ2)/\look (σ2 x).hp b=some (.lp l (K fn) cs2 q)/\q≠1/\
   (Φ x->atJ (AK P C Q (.x .normal) ks ((σ2 x).kill b)) (fun c=>AK P C Q (.c c) ks ((σ2 x).kill b)) (jmp q))):AK P C Q (.c (.rangeFunc g ps assign body)) ks σ:=by
 obtain rfl:K=fun fn=>⟨fn,ps,assign,body⟩:=funext hK
 have hpg:=hCn.g
 replace hCn:=hCn.n
 subst hCn
 intro a w ⟨φ,hr⟩
 refine wpIn_rangeFunc fun fn _=>?_
 obtain⟨outs,r,σ2,us,hsC,hus,hC,hcall,hx⟩:=H (w.heap.size+1) fn
 obtain⟨xs,ys,hev,e1,e2,e3,e4⟩:=(hr.opd hg).clo_inv
 have hb3:b<617:=Qe2 (by rw [hb2];rfl)
 refine⟨w.heap.size+1,[{ target:=.collected w.heap.size,args:=#[] }],(w.alloc (.deferred (some []))).alloc (.loop { state:=.ready,pending:=none,fn,tmps:=a.tmps,params:=ps,assign,body,defers:=w.heap.size }),{ target:=.fn (.func f) ys,args:=xs++#[.func (.yield (w.heap.size+1)) #[] #[]] },(w.alloc (.deferred (some []))).alloc (.loop { state:=.ready,pending:=none,fn,tmps:=a.tmps,params:=ps,assign,body,defers:=w.heap.size }),f,(xs++#[.func (.yield (w.heap.size+1)) #[] #[]])++ys,(w.alloc (.deferred (some []))).alloc (.loop { state:=.ready,pending:=none,fn,tmps:=a.tmps,params:=ps,assign,body,defers:=w.heap.size }),?_,?_,fun _ _=>trivial,?_,(fun h=>by cases h),?_⟩
 ·rw [show C.F.round=none from hrnd];exact run_enterLoop_outer _ _ _ _ _
 ·have hy:a.eval (.const (.func (.yield (w.heap.size+1)) #[] #[]))=.func (.yield (w.heap.size+1)) #[] #[]:=rfl
  simp only [resolve,hev,Deferred.ofValue,Sem.run_pure,List.map_toArray,Qgq,List.map_nil,hy]
 ·exact Qhf he
 have hm:=hr.mark
 have hN0:=hm.none_of_look hb
 have hsz:(w.alloc (.deferred (some []))).heap.size=w.heap.size+1:=by simp
 have hR1:=hm.alloc (cap:=0) (z:=0) hb hb3 (ob:=.lp (w.heap.size+1) ⟨fn,ps,assign,body⟩ (snap ts σ.fr C.n) 0)
  (obj:=.loop { state:=.ready,pending:=none,fn,tmps:=a.tmps,params:=ps,assign,body,defers:=w.heap.size })
  ⟨a.tmps,w.heap.size,hsz,rfl,by rw [<-hsz];exact World.alloc_heap_new _ _,by rw [hr.tmps];simp [Vm.snap],fun j x v hx hv=>(hm.snap j x v hx hv).mono (hm.mono_ext _ hN0) (hm.imm_alloc b 0 0 _ hN0)⟩
 rw [hsz]at hR1
 generalize hσ1:σ.set b (.lp (w.heap.size+1) ⟨fn,ps,assign,body⟩ (snap ts σ.fr C.n) 0)=σ1 at hR1 hx hC
 generalize hw1:(w.alloc (.deferred (some []))).alloc (.loop { state:=.ready,pending:=none,fn,tmps:=a.tmps,params:=ps,assign,body,defers:=w.heap.size })=w1 at hR1 ⊢
 have hval:(xs++#[.func (.yield (w.heap.size+1)) #[] #[]])++ys=(xs.toList++(.func (.yield (w.heap.size+1)) #[] #[]::ys.toList)).toArray:=by apply Array.ext';simp
 rw [hval]
 obtain⟨_,_,_,ed,_⟩:=hx default
 obtain⟨_,n1,n2,hv,hobs,_,_⟩:=Qyy hus hC ed
 have hNm:=Names.of n1 n2
 have hfr1:σ1.fr=σ.fr:=by rw [<-hσ1];rfl
 refine Qpq ((hcall _ _ w1 _ (Ins.of_vals (g:=false) (vs:=fs++(.clo (.yield (w.heap.size+1)) [] []::cps)) hR1 (by simp [e1,e2]) (fun j x v hx hv=>?_) hNm.injM hNm.param hv hobs) ((hR1.glob hpg).mono fun _ h=>.inl h)).mono ?_)
 ·have up:=fun {x:Value} {v:V} (h:Rep φ (Imm C φ w) w x v)=>(h.mono (φ':=φ) (I':=Imm C φ (w.alloc (.deferred (some [])))) (w':=w.alloc (.deferred (some []))) (fun _ _ h=>h) fun k hk=>⟨⟨by have:=hk.1;simp;omega,hk.2⟩,Below.heap_alloc w _ k hk.1⟩).mono (hm.mono_ext ⟨w.heap.size+1,0,0,[],0⟩ hN0) (by
   have:=hm.imm_alloc b 0 0 (.loop { state:=.ready,pending:=none,fn,tmps:=a.tmps,params:=ps,assign,body,defers:=w.heap.size }) hN0
   rw [hsz,hw1]at this;exact this)
  by_cases c1:j<fs.length
  ·rw [QbS (by simpa using (by omega:j<xs.size))]at hx
   rw [QbS c1]at hv
   exact up (e3 j x v (by simpa using hx) hv)
  rw [QbY (by simp;omega)]at hx
  rw [QbY (by omega)]at hv
  simp only [QxL]at hx
  rw [e1]at hx
  generalize j-fs.length=i at hx hv
  cases i with
  | zero=>
   simp at hx hv;subst hx;subst hv
   exact .clo (.yield _) #[] #[] [] [] rfl rfl (fun j x v h=>by simp at h) (fun j x v h=>by simp at h)
  | succ i=>simp only [Qu2]at hx hv;exact up (e4 i x v (by simpa using hx) hv)
 rintro e w' ⟨x,v,hs',φ',rfl,⟨i,hΦ,rfl,hso⟩,hout⟩
 obtain⟨_,cs2,q,ei,hq,hq1,hk⟩:=hx i
 replace hk:=hk hΦ
 obtain⟨hsN,n1,n2,_,_,hback,hσ2⟩:=Qyy hus hC ei
 have hNm:=Names.of n1 n2
 obtain⟨k3,_⟩:=hR1.after hNm hout hso (fun c s h=>by
  obtain⟨ob',e1⟩:=hobs.get.2 c s h
  obtain⟨s',ob,e2,e3,_⟩:=hobs.get.1 c ob' e1
  rw [h]at e2;cases e2;exact⟨ob,e3⟩) hback
 rw [<-hσ2]at k3
 obtain⟨B,hB,tmps,D,f1,f2,f3,f4,f5⟩:=k3.lp hq
 have hst:lst q≠.busy:=by
  match q,hq1 with
  | 0,_=>exact(by intro h;cases h)
  | 1,h=>exact absurd rfl h
  | k+2,_=>exact(by intro h;cases h)
 refine⟨_,_,run_endLoop f3 hst,?_⟩
 have hkill:=k3.killTo hB (w':=w'.putObj (w.heap.size+1) (.loop { state:=.exhausted,pending:=jmp q,fn,tmps,params:=ps,assign,body,defers:=D })) rfl rfl rfl World.putObj_size (fun k hk=>World.putObj_heap_other (by rw [<-f1];exact hk))
 simp only
 cases hj:jmp q with
 | none=>rw [hj]at hk hkill;exact hk _ _ ⟨_,hkill⟩
 | some c=>rw [hj]at hk hkill;exact hk _ _ ⟨_,hkill⟩
end
def QA6 (n:Nat)(p:Int×Int):Option (Nat⊕Empty):=some (.inl (n+1))
theorem Qv3 : ∀(l:List (Int×Int)) (n:Nat),Qef QA6 n l=some (.inl (n+l.length)):=by
 intro l
 induction l with
 | nil=>intro n;rfl
 | cons p l ih=>intro n;simp only [Qef,QA6,Qn,Sum.elim_inl];rw [ih];simp [Nat.add_comm,Nat.add_left_comm]
theorem QBR (l:List (Int×Int))(n:Nat):Qk8 QA6 n l=some (.inl (n+l.length)):=Qms.2 ⟨fun l' h=>by rw [Qv3,Qv3,h.length_eq],Qv3 l n⟩
theorem QA7 {l m:List Int}(h:l.Perm m):Qej l=Qej m:=by
 rw [QsR,QsR]
 refine List.Perm.eq_of_pairwise (le:=fun x y:Int=>x<=y) ?_ ?_ ?_ ?_
 ·intro a b _ _ h1 h2;omega
 ·exact(List.pairwise_mergeSort (le:=fun x y:Int=>decide (x<=y)) (fun a b c h1 h2=>by simp at *;omega) (fun a b=>by simp;omega) l).imp fun h=>by simpa using h
 ·exact(List.pairwise_mergeSort (le:=fun x y:Int=>decide (x<=y)) (fun a b c h1 h2=>by simp at *;omega) (fun a b=>by simp;omega) m).imp fun h=>by simpa using h
 exact((List.mergeSort_perm l _).trans h).trans (List.mergeSort_perm m _).symm
end Go.Vm
namespace Go.Vm
open Go Go.RowKit
def spZ : List Int:=(List.range 256).map fun c=>if Lib.isSp (UInt8.ofNat c)then 1 else 0
theorem QAl {P:Program}{W:World}(h:Lib.TabIs P W "strings.asciiSpace" .u8 spZ):Qn7 P (fun k=>k<W.heap.size) W:=fun g hg=>by
 have hc:∀c:Nat,c<256->W.cell? ⟨g,c,none⟩=some (.int .u8 (if Lib.isSp (UInt8.ofNat c)then 1 else 0)):=fun c hc=>by
  rw [h.cell hg c (by simp only [spZ,QqC,Qu4];exact hc)]
  simp [spZ,List.getD,hc]
 have h0:g<W.heap.size:=by
  have:=hc 0 (by decide)
  apply Nat.lt_of_not_le
  intro hle
  have e:W.heap[g]? = none:=Array.getElem?_eq_none hle
  simp [World.cell?,e]at this
 exact⟨h0,h0,hc⟩
theorem QzE {P:Program}{W:World}{l r:List (String×DataW Unit)}{g:Nat}{t e:TypeId}(n:Nat)(hl:l.drop n=("strings.asciiSpace",Lib.tabData .u8 spZ)::r)(hp:(l.all fun x=>x.2.handleName?.isNone)=true)
  (hg:P.globalNamed "strings.asciiSpace" = some g) (hty:(P.globals[g]?).map (·.type)=some t) (ht:P.underlying t=some (.array 256 e)) (he:P.underlying e=some (.int .u8)) (hce:P.cellsOf e=1) (hct:P.cellsOf t=256)
  (h:laidMetH P l W):Qn7 P (fun k=>k<W.heap.size) W:=by
 rw [MakeChecks.laidMetH_plain _ _ _ hp]at h
 have key:∀(n:Nat) (l:List (String×DataW Unit)),laidMet P l W->laidMet P (l.drop n) W:=by
  intro n
  induction n with
  | zero=>intro l h;exact h
  | succ n ih=>
   intro l h
   cases l with
   | nil=>exact h
   | cons x l=>exact ih l h.tail
 have h2:=key n l h
 rw [hl]at h2
 exact QAl (Lib.tabIs_of_head hg hty ht he hce hct h2)
end Go.Vm
namespace Go.Vm
open Go Go.RowKit
variable {H:Type}{P:Program}
def Sz (P:Program)(t:Nat)(d:DataW H):Prop:=∀n∈d.weights P t,n<=reachBytes
theorem Sz.all {ts:List TypeId}{ds:List (DataW H)}(h:(DataW.weightsEach P ts ds).all (·<=reachBytes)=true){j:Nat}{t:Nat}{d:DataW H}(ht:ts[j]? = some t)(hd:ds[j]? = some d):Sz P t d:=fun n hn=>by
 have:=Q9.1 h n (DataW.weights_mem_each ht hd n hn)
 simpa using this
theorem Sz.field {t:Nat}{fs:Array Field}(hu:P.underlying t=some (.struct fs)){ds:List (DataW H)}(h:Sz P t (.agg ds)){j:Nat}{u:Nat}{d:DataW H}(ht:(fs.toList.map (·.type))[j]? = some u)(hd:ds[j]? = some d):Sz P u d:=fun n hn=>h n (by
 simp only [DataW.weights,hu]
 exact DataW.weights_mem_each ht hd n hn)
end Go.Vm
namespace Go.Vm
open Go Go.RowKit
section
variable {κ α:Type}[DecidableEq κ]
theorem Qw3 {π:Type}{L:List (Nat×π)}{seen:Array Nat}{y:Nat}:QaH L (seen.push y)=(QaH L seen).filter fun q=>!(q.1==y):=by
 unfold QaH
 rw [List.filter_filter]
 apply List.filter_congr
 intro q _
 rw [Bool.eq_iff_iff]
 simp [Array.mem_push]
 constructor
 ·rintro ⟨h1,h2⟩;exact⟨h2,h1⟩
 rintro ⟨h1,h2⟩;exact⟨h2,h1⟩
structure Qpa (L L':List (Nat×(κ×α))) (seen:Array Nat):Prop where
 keys:L'.map (·.2.1)=L.map (·.2.1)
 left:QaH L' seen=QaH L seen
theorem Qpa.refl {L:List (Nat×(κ×α))}{seen:Array Nat}:Qpa L L seen:=⟨rfl,rfl⟩
theorem Qpa.push {L L':List (Nat×(κ×α))}{seen:Array Nat}(h:Qpa L L' seen)(y:Nat):Qpa L L' (seen.push y):=⟨h.keys,by rw [Qw3,Qw3,h.left]⟩
theorem Qpa.nil {L L':List (Nat×(κ×α))}{seen:Array Nat}(h:Qpa L L' seen)(hq:QaH L' seen=[]):QaH L seen=[]:=by rw [<-h.left];exact hq
theorem Qpa.mem {L L':List (Nat×(κ×α))}{seen:Array Nat}(h:Qpa L L' seen){q:Nat×(κ×α)}(hq:q∈QaH L seen):q∈QaH L' seen:=by rw [h.left];exact hq
end
section
variable {P:Program}{C:Ctx}{σ:St}{o:Oper}{κ α:Type}[DecidableEq κ]
end
theorem AK.know {P:Program}{C:Ctx}{Q:Exit->St->Prop}{σ:St}{ks:List Fr}{pt:Pt}{p:Prop}(h:∀a w,R C σ a w->p)(k:p->AK P C Q pt ks σ):AK P C Q pt ks σ:=
 AK.weakenE (ι:=PLift p) (f:=fun _=>σ) (fun a w hR=>⟨⟨h a w hR⟩,hR⟩) fun i=>k i.down
theorem AK.openMapK {P:Program}{C:Ctx}{Q:Exit->St->Prop}{σ:St}{ks:List Fr}{κ α:Type}[DecidableEq κ]{K:TypeId}{e:κ->V}{val:κ->Value}{f:α->V}{lt:List (κ×α)}{b:Nat}{pt:Pt}(hk:Qgs P K e val)(hb:look σ.hp b=some (.map (QP e f lt)))
  (h:∀bm clock (L:List (Nat×(κ×α))),(L.map (·.1)).Nodup->(L.map (·.2.1)).Nodup->(L.map Prod.snd).Perm lt->AK P C Q pt ks (σ.set b (.mapX bm clock (QjH e f L) (QP e f lt)))):AK P C Q pt ks σ:=by
 refine AK.openMap hk hb fun bm clock L h1 h2=>AK.know (p:=(lt.map Prod.fst).Nodup) (fun a w ⟨φ,hr⟩=>?_) fun hn=>h bm clock L h1 ?_ h2
 ·rcases hr.heap b _ (St.look_set_same _ _ _)with⟨B,hB,_,M,_,_,_,g3,_⟩|⟨_,e'⟩
  ·exact(Qo9 hk.einj).1 g3
  exact e'.elim
 have:=(h2.map Prod.fst).nodup_iff.2 hn
 rw [Qmi]at this
 exact this
end Go.Vm
namespace Go.Vm
open Go Go.RowKit
def V.lo1 : V->V
 | .sln _ z rs=>.sl z rs
 | v=>v
def V.lo2 : V->V
 | .sln _ z rs=>.sl z (rs.map (List.map V.lo1))
 | v=>v
def V.lo3 : V->V
 | .tup cs=>.tup (cs.map V.lo2)
 | v=>v.lo2
theorem V.lo1_one (v:V):v.lo1.one=v.one:=by cases v<;>rfl
theorem Dat.lo {I:Nat->Prop}{w:World}{x:Value}{v:V}(d:Dat I w x v):Dat I w x v.lo1:=by cases v<;>first | exact d | exact d.lo1
theorem Qfe.lo {z:Nat}{r:List V}(h:Qfe z r):Qfe z (r.map V.lo1):=⟨by simpa using h.1,fun v hv=>by obtain⟨u,hu,rfl⟩:=QaN.1 hv;rw [V.lo1_one];exact h.2 u hu⟩
theorem Dat.loR {I:Nat->Prop}{w:World}{x:Value}{z:Nat}{rs:List (List V)}(d:Dat I w x (.sl z rs)):Dat I w x (.sl z (rs.map (List.map V.lo1))):=by
 cases d with
 | sl0=>exact .sl0 _ _ _
 | sl b off len cap _ _ c hI hl hc hr hcell hd=>
  refine .sl b off len cap z _ c hI (by simpa using hl) hc (fun r hr'=>?_) hcell (fun i r hi j v hj=>?_)
  ·obtain⟨s,hs,rfl⟩:=QaN.1 hr';exact(hr s hs).lo
  rw [Qau]at hi
  obtain⟨s,hs,rfl⟩:=Qax.1 hi
  rw [Qau]at hj
  obtain⟨u,hu,rfl⟩:=Qax.1 hj
  exact(hd i s hs j u hu).lo
theorem Rep.lo2 {φ:Nat->Option Blk}{I:Nat->Prop}{w:World}{x:Value}{v:V}(d:Rep φ I w x v):Rep φ I w x v.lo2:=by
 cases v with
 | sln β z rs=>cases d with | dat d=>exact .dat d.lo1.loR
 | _=>exact d
theorem Rep.lo3 {φ:Nat->Option Blk}{I:Nat->Prop}{w:World}{x:Value}{v:V}(d:Rep φ I w x v):Rep φ I w x v.lo3:=by
 cases v with
 | tup cs=>
  obtain⟨xs,rfl,hs,hr⟩:=d.tup_inv
  refine .tup xs _ (by simpa using hs) fun j y u hy hu=>?_
  rw [Qau]at hu
  obtain⟨s,hs',rfl⟩:=Qax.1 hu
  exact(hr j y s hy hs').lo2
 | sln β z rs=>exact d.lo2
 | _=>exact d
theorem Qan.lo {P:Program}{f:FuncId}{us:List V}{hs:List (Nat×Ob)}{r r':V}(h:Qan 0 P f us hs (Gives r []))(e:r.lo3=r'):Qc P f us hs (Gives r' []):=by
 subst e
 exact fun S φ w vals hi hG=>(h S φ w vals (Nat.zero_le _) hi hG).mono fun e w' ⟨x,v,hs',φ',h1,⟨h2,_⟩,ho⟩=>by
  subst h2
  exact⟨x,v.lo3,hs',φ',h1,⟨rfl,fun c ob h=>by cases h⟩,{ ho with rep:=ho.rep.lo3 }⟩
section
variable {P:Program}{C:Ctx}{Q:Exit->St->Prop}{σ σ':St}{ks:List Fr}{ops:Array Oper}{o:Oper}{l:List Oper}
def QA8 {ι:Type _}(P:Program)(C:Ctx)(o:Oper)(σ:St)(f:ι->St):Prop:=
 ∀a w,R C σ a w->∀(next:Act->World->Prop) (Q:Exit->Act->World->Prop),(∀i a' w',R C (f i) a' w'->next a' w')->o.wpIn C.F 0 P a w next Q
theorem AK.opE {ι:Type _}{f:ι->St}(hg:o.guard=none)(h:QA8 P C o σ f)(k:∀i,AK P C Q (.o ops l) ks (f i)):AK P C Q (.o ops (o::l)) ks σ:=by
 intro a w hR
 simp only [wpListIn,Region.wanted,hg,if_true]
 exact(h a w hR _ _ fun i a' w' hR'=>k i a' w' hR')
def Pl (I:Nat->Prop)(w:World)(β k:Nat):Prop:=I k/\β<=k/\∃cs E,w.heap[k]? = some (.cells cs E (0,0))
def Qpb (β:Nat)(r:V)(rv:Value->V)(v:V):Prop:=∀(φ:Nat->Option Blk) (I:Nat->Prop) (w:World) (y:Value),Rep φ I w y r->∃x,Dat (Pl I w β) w x v/\∀φ' I' w',Rep φ' I' w' y (rv x)
def V.new1 (β:Nat):V->Prop
 | .sln γ _ rs=>γ=β/\∀r∈rs,∀v∈r,v.sca=true
 | v=>v.sca=true
theorem Dat.new1 {β:Nat}{I:Nat->Prop}{w:World}{x:Value}{v:V}(d:Dat I w x v)(h:v.new1 β):Dat (Pl I w β) w x v.lo1:=by
 cases v with
 | sln γ z rs=>
  obtain⟨rfl,h2⟩:=h
  refine Dat.lo1 (β:=γ) ?_
  cases d with
  | sln0=>exact .sln0 _ _ _ _
  | sln _ b off len cap _ _ cs E hβ hI hl hc hr hcell hsz hd=>exact .sln γ b off len cap z rs cs E hβ ⟨hI,hβ,cs,E,hcell⟩ hl hc hr hcell hsz fun i r hi j v hj=>(hd i r hi j v hj).sca (h2 r (Qaa hi) v (Qaa hj))
 | _=>first | exact d.sca h | cases h
theorem Dat.new2 {β z:Nat}{rs:List (List V)}{I:Nat->Prop}{w:World}{x:Value}(d:Dat I w x (.sln β z rs))(h:∀r∈rs,∀v∈r,v.new1 β):Dat (Pl I w β) w x (.sl z (rs.map (List.map V.lo1))):=by
 cases d with
 | sln0=>exact .sl0 _ _ _
 | sln _ b off len cap _ _ cs E hβ hI hl hc hr hcell hsz hd=>
  refine .sl b off len cap z _ (fun j=>cs.getD (off+j) undef) ⟨hI,hβ,cs,E,hcell⟩ (by simpa using hl) hc (fun r hr'=>?_) (fun j hj=>?_) (fun i r hi j v hj=>?_)
  ·obtain⟨s,hs,rfl⟩:=QaN.1 hr';exact(hr s hs).lo
  ·have:off+j<cs.size:=by omega
   simp [World.cell?,hcell,Array.getD,this]
  rw [Qau]at hi
  obtain⟨s,hs,rfl⟩:=Qax.1 hi
  rw [Qau]at hj
  obtain⟨u,hu,rfl⟩:=Qax.1 hj
  exact(hd i s hs j u hu).new1 (h s (Qaa hs) u (Qaa hu))
theorem Qpb.one {β z:Nat}{rs:List (List V)}(h:∀r∈rs,∀v∈r,v.new1 β):Qpb β (.sln β z rs) V.lit (.sl z (rs.map (List.map V.lo1))):=fun φ I w y hy=>by
 cases hy with
 | dat d=>exact⟨y,d.new2 h,fun _ _ _=>.dat (.lit _)⟩
theorem Qpb.two {β z:Nat}{rs:List (List V)}{e:V}(h:∀r∈rs,∀v∈r,v.new1 β)(he:e.sca=true):Qpb β (.tup [.sln β z rs,e]) (fun x=>.tup [.lit x,e]) (.sl z (rs.map (List.map V.lo1))):=fun φ I w y hy=>by
 obtain⟨xs,rfl,hs,hr⟩:=hy.tup_inv
 have h0:0<xs.size:=by rw [hs];simp
 have h1:1<xs.size:=by rw [hs];simp
 have key:∀y,Rep φ I w y (.sln β z rs)->Dat (Pl I w β) w y (.sl z (rs.map (List.map V.lo1))):=fun y d=>by
  cases d with
  | dat d=>exact d.new2 h
 refine⟨xs[0],key _ (hr 0 _ _ (Qe0 h0) rfl),fun φ' I' w'=>.tup xs _ hs fun j y v hy hv=>?_⟩
 ·match j,hv with
  | 0,hv=>cases hv;rw [Qe0 h0]at hy;cases hy;exact .dat (.lit _)
  | 1,hv=>cases hv;exact(hr 1 y _ hy rfl).sca he
def QzF (β:Nat):List V->Prop
 | []=>True
 | v::r=>v.new1 β/\QzF β r
theorem QzF.get {β:Nat}:∀{r:List V},QzF β r->∀v∈r,v.new1 β
 | u::r,h,v,hv=>by
  rcases Qbb.1 hv with rfl | hv
  ·exact h.1
  exact h.2.get v hv
theorem Qpb.map2 {α:Type}{β z:Nat}{f g:α->List V}{l:List α}{u:V}(h:∀x,QzF β (f x))(e:∀x,(f x).map V.lo1=g x)(hu:u.sca=true):Qpb β (.tup [.sln β z (l.map f),u]) (fun x=>.tup [.lit x,u]) (.sl z (l.map g)):=by
 have:=Qpb.two (β:=β) (z:=z) (rs:=l.map f) (e:=u) (fun r hr v hv=>by obtain⟨x,_,rfl⟩:=QaN.1 hr;exact(h x).get v hv) hu
 rw [Qmi]at this
 have e2:List.map V.lo1∘f=g:=funext e
 rwa [e2]at this
theorem QA9 {α:Type}{f g:α->List V}{l:List α}(e:∀x,(f x).map V.lo1=g x):(l.map f).map (List.map V.lo1)=l.map g:=by
 rw [Qmi]
 have e2:List.map V.lo1∘f=g:=funext e
 rw [e2]
theorem QA8.thaw {f:FuncId}{d:Nat}{g:Bool}{vs us:List V}{rN:Nat->V}{rv:Value->V}{v:V}(hE:QaS P C o σ f vs)(hd:o.dst=some d)(hn:Nat.ble (d+1) C.n=true)(hpg:C.pg P)(hv:Qlx σ.hp g vs us)
  (hc:∀β,Qan β P f us [] (Gives (rN β) [])) (hT:∀β,Qpb β (rN β) rv v) (hf:look σ.hp d=none):QA8 P C o σ fun x:Value=>(σ.set d (.nst x v)).put d (rv x):=by
 intro a w ⟨φ,hr⟩ next Q hnext
 refine⟨fun _ _=>trivial,?_⟩
 obtain⟨vals,hex,g1,g2⟩:=hE φ a w hr
 rw [QrP hex,Oper.uponIn_enter]
 refine⟨(fun h=>by cases h),Qpq ((hc w.heap.size _ _ w _ (Qc2 _) (Ins.of_viewsE hr g1 g2 hv) ((hr.glob hpg).mono fun _ h=>.inl h)).mono ?_)⟩
 rintro e w' ⟨y,v0,hs',φ',rfl,⟨rfl,_⟩,hout⟩
 obtain⟨x,hx,hrv⟩:=hT _ _ _ _ _ hout.rep
 rw [hd]
 have mem:∀k,k∈(List.range w'.heap.size).filter (fun k=>@decide (w.heap.size<=k/\∃cs E,w'.heap[k]? = some (.cells cs E (0,0))) (Classical.propDecidable _))↔k<w'.heap.size/\w.heap.size<=k/\∃cs E,w'.heap[k]? = some (.cells cs E (0,0)):=fun k=>by
  rw [Qo1,QiW,@decide_eq_true_iff _ (Classical.propDecidable _)]
 generalize (List.range w'.heap.size).filter (fun k=>@decide (w.heap.size<=k/\∃cs E,w'.heap[k]? = some (.cells cs E (0,0))) (Classical.propDecidable _))=L at mem
 cases L with
 | cons b more=>
  have hB:∀k,(⟨b,0,0,more,0⟩:Blk).has k↔k<w'.heap.size/\w.heap.size<=k/\∃cs E,w'.heap[k]? = some (.cells cs E (0,0)):=fun k=>by
   rw [<-mem,Qbb];exact Iff.rfl
  exact hnext x _ _ ⟨_,(hr.born (B:=⟨b,0,0,more,0⟩) (ob:=.nst x v) (C.slot hn) hf hout.os hout.tape hout.output hout.size (fun k hk=>hout.kept k hk fun _ _ h=>by simp at h) (fun k hk=>⟨((hB k).1 hk).2.1,((hB k).1 hk).1⟩)
   ⟨hx.mono fun k hk=>⟨(hB k).2 ⟨hk.1.1,hk.2⟩,rfl⟩,fun k hk=>((hB k).1 hk).2.2⟩).put (Qag hn) (hrv _ _ _)⟩
 | nil=>
  have hnil:∀w2,Dat (fun _=>False) w2 x v:=fun w2=>hx.mono fun k hk=>by have:=(mem k).2 ⟨hk.1.1,hk.2⟩;cases this
  have hr':=hr.called hout
  have hN:=hr'.none_of_look hf
  have hset:RR C φ (σ.set d (.nst x v)) a w':=by
   refine⟨hr'.os,hr'.tape,hr'.output,hr'.size,hr'.kept,hr'.inj,fun o' B' hB'=>?_,hr'.lt,hr'.new,⟨hr'.stay.1,fun o' ob' B1 hge ho' hB1=>hr'.stay.2 o' ob' B1 hge (by have:=C.slot hn;rwa [σ.look_set_other _ (by omega)]at ho') hB1⟩,hr'.tmps,hr'.defers,hr'.frame,fun o' ob' ho'=>?_⟩
   ·by_cases e:o'=d
    ·subst e;exact⟨_,σ.look_set_same _ _⟩
    rw [σ.look_set_other _ (Ne.symm e)];exact hr'.dom o' B' hB'
   by_cases e:o'=d
   ·subst e;rw [σ.look_set_same]at ho';cases ho';exact .inr ⟨hN,hnil⟩
   rw [σ.look_set_other _ (Ne.symm e)]at ho';exact hr'.heap o' ob' ho'
  exact hnext x _ _ ⟨φ,hset.put (Qag hn) (hrv _ _ _)⟩
def QDT (z:Nat)(D:Nat->Nat->Prop)(y:Value)(n:Nat):Prop:=∃a c,y=.slice a n c/\∀k,k<n->∃b off,a=some ⟨b,off,none⟩/\D b (off+k*z)
def QBa (z q z':Nat)(D:Nat->Nat->Prop)(H:Nat->Nat->Value->Prop)(x:Value)(ls:List Nat):Prop:=
 ∃a c,x=.slice a ls.length c/\∀(i:Nat) n,ls[i]? = some n->∃b off y,a=some ⟨b,off,none⟩/\H b (off+(i*z+q)) y/\QDT z' D y n
theorem RR.setB {φ:Nat->Option Blk}{a:Act}{w:World}(h:RR C φ σ a w){b:Nat}{B:Blk}{ob ob':Ob}(hB:φ b=some B)(hb:look σ.hp b=some ob')(hrep:QbH φ (Imm C φ w) w B ob):RR C φ (σ.set b ob) a w:=by
 refine⟨h.os,h.tape,h.output,h.size,h.kept,h.inj,fun o B hB=>?_,h.lt,h.new,h.stay.set hb,h.tmps,h.defers,h.frame,fun o ob'' ho=>?_⟩
 ·by_cases e:o=b
  ·subst e;exact⟨_,σ.look_set_same _ _⟩
  rw [σ.look_set_other _ (Ne.symm e)];exact h.dom o B hB
 by_cases e:o=b
 ·subst e;rw [σ.look_set_same]at ho;cases ho;exact .inl ⟨B,hB,hrep⟩
 rw [σ.look_set_other _ (Ne.symm e)]at ho;exact h.heap _ _ ho
theorem RR.setN {φ:Nat->Option Blk}{a:Act}{w:World}(h:RR C φ σ a w){b:Nat}{ob ob':Ob}(hB:φ b=none)(hb:look σ.hp b=some ob')(hn:ob.Nil):RR C φ (σ.set b ob) a w:=by
 refine⟨h.os,h.tape,h.output,h.size,h.kept,h.inj,fun o B hB=>?_,h.lt,h.new,h.stay.set hb,h.tmps,h.defers,h.frame,fun o ob'' ho=>?_⟩
 ·by_cases e:o=b
  ·subst e;exact⟨_,σ.look_set_same _ _⟩
  rw [σ.look_set_other _ (Ne.symm e)];exact h.dom o B hB
 by_cases e:o=b
 ·subst e;rw [σ.look_set_same]at ho;cases ho;exact .inr ⟨hB,hn⟩
 rw [σ.look_set_other _ (Ne.symm e)]at ho;exact h.heap _ _ ho
theorem QxZ {w:World}{b i:Nat}{cs:Array Value}{E:TypeId}{y:Value}(h:w.heap[b]? = some (.cells cs E (0,0)))(hc:w.cell? ⟨b,i,none⟩=some y):cs[i]? = some y:=by
 simpa [World.cell?,h] using hc
theorem AK.scrib {d z q z':Nat}{x:Value}{rs:List (List V)}{ls:List Nat}{pt:Pt}(hb:look σ.hp d=some (.nst x (.sl z rs)))(hl:ls.length=rs.length)
  (hr:∀(i:Nat) r,rs[i]? = some r->∃us:List (List V),r[q]? = some (.sl z' us)/\ls[i]? = some us.length/\0<z'/\∀u∈us,∃n,u[0]? = some (.i .i64 n))
  (k:∀D H,QBa z q z' D H x ls->AK P C Q pt ks (σ.set d (.scr D H))):AK P C Q pt ks σ:=by
 refine AK.weakenE (ι:={ p:(Nat->Nat->Prop)×(Nat->Nat->Value->Prop) // QBa z q z' p.1 p.2 x ls }) (f:=fun p=>σ.set d (.scr p.1.1 p.1.2)) (fun a w ⟨φ,h⟩=>?_) fun p=>k _ _ p.2
 rcases h.heap d _ hb with⟨B,hB,hd,hpl⟩|⟨hB,hn⟩
 ·refine⟨⟨(fun b i=>B.has b/\∃cs E n,w.heap[b]? = some (.cells cs E (0,0))/\cs[i]? = some (.int .i64 n),fun b i y=>B.has b/\¬(B.has b/\∃cs E n,w.heap[b]? = some (.cells cs E (0,0))/\cs[i]? = some (.int .i64 n))/\w.cell? ⟨b,i,none⟩=some y),?_⟩,φ,h.setB hB hb ⟨fun b i h=>h,fun b i y h=>h⟩⟩
  show QBa _ _ _ _ _ _ _
  cases hd with
  | sl0 a cap=>exact⟨a,cap,by rw [show ls.length=0 from hl],fun i n hi=>by rw [Qmh.1 hl]at hi;cases hi⟩
  | sl b off len cap _ _ c hI hlen hc hok hcell hd=>
   refine⟨some ⟨b,off,none⟩,cap,by rw [hl,hlen],fun i n hi=>?_⟩
   have hlt:i<rs.length:=by rw [<-hl];exact(QX.1 hi).1
   have hri:=QM hlt
   obtain⟨us,h1,h2,h3,h4⟩:=hr i _ hri
   rw [hi]at h2
   cases h2
   have hq:q<z:=by rw [<-(hok _ (Qaa hri)).1];exact(QX.1 h1).1
   have hbig:i*z+z<=len*z:=by
    have:(i+1)*z<=len*z:=QcO _ (by omega)
    rw [Qc1]at this;omega
   have hcy:=hcell (i*z+q) (by omega)
   have hy:=hd i _ hri q _ h1
   refine⟨b,off,c (i*z+q),rfl,⟨hI,?_,hcy⟩,?_⟩
   ·rintro ⟨_,cs,E,n,e1,e2⟩
    have:=QxZ e1 hcy
    rw [e2]at this
    rw [<-Option.some.inj this]at hy
    cases hy
   generalize c (i*z+q)=y at hy
   cases hy with
   | sl0 a cap=>exact⟨a,cap,rfl,fun k hk=>by cases hk⟩
   | sl b2 off2 len2 cap2 _ _ c2 hI2 hlen2 hc2 hok2 hcell2 hd2=>
    refine⟨some ⟨b2,off2,none⟩,cap2,by rw [hlen2],fun k hk=>⟨b2,off2,rfl,hI2,?_⟩⟩
    obtain⟨cs,E,e1⟩:=hpl b2 hI2
    have hu:=QM hk
    obtain⟨m,hm⟩:=h4 _ (Qaa hu)
    have hb3:k*z'+z'<=len2*z':=by
     have:(k+1)*z'<=len2*z':=QcO _ (by omega)
     rw [Qc1]at this;omega
    have hv:=hd2 k _ hu 0 _ hm
    have hc4:=QxZ e1 (hcell2 (k*z') (by omega))
    rw [Qlw]at hv
    generalize c2 (k*z')=y2 at hv hc4
    cases hv
    exact⟨cs,E,m,e1,hc4⟩
 refine⟨⟨(fun _ _=>False,fun _ _ _=>False),?_⟩,φ,h.setN hB hb ⟨fun _ _ h=>h,fun _ _ _ h=>h⟩⟩
 have:=hn w
 cases this with
 | sl0 a cap=>exact⟨a,cap,by rw [show ls.length=0 from hl],fun i n hi=>by rw [Qmh.1 hl]at hi;cases hi⟩
 | sl _ _ _ _ _ _ _ hI=>exact hI.elim
theorem Stp.lenLit {T d e z by_ n c:Nat}{x:Operand}{a:Option Addr}(ho:o.op=.call { callee:=.builtin .len,args:=#[x],argTypes:=#[T] })(hd:o.dst=some d)(hn:Nat.ble (d+1) C.n=true)(hx:σ.opd x=some (.lit (.slice a n c)))(hT:Qas P T=some (e,z,by_)):
  Stp P C o σ (σ.put d (.i .i64 n)):=by
 refine Stp.same hd hn fun φ a w hr=>?_
 obtain⟨hu,_⟩:=Qcp hT
 refine⟨.int .i64 n,?_,.dat (.i _ _)⟩
 simp [execOp,ho,(hr.opd hx).lit_inv,resolve,invoke,builtin,Builtin.len_,run_underlying hu,goInt]
theorem Stp.idxLit {T d e z by_ b off n c:Nat}{x y:Operand}{k:IntKind}{j:Int}(ho:o.op=.indexAddr T x y)(hd:o.dst=some d)(hn:Nat.ble (d+1) C.n=true)(hx:σ.opd x=some (.lit (.slice (some ⟨b,off,none⟩) n c)))(hy:σ.opd y=some (.i k j))
  (hT:Qas P T=some (e,z,by_)) (h0:0<=j) (h1:j<n):Stp P C o σ (σ.put d (.lit (.pointer (some ⟨b,off+j.toNat*z,none⟩)))):=by
 refine Stp.same hd hn fun φ a w hr=>?_
 refine⟨_,?_,.dat (.lit _)⟩
 simp only [execOp,ho,(hr.opd hx).lit_inv,(hr.opd hy).i_inv,Sem.run_bind,Qmm hT h0 h1,Result.andThen_ok,Sem.run_pure,Addr.add_lit]
theorem Stp.idxLitA {T d z n b off:Nat}{x y:Operand}{k:IntKind}{j:Int}(ho:o.op=.indexAddr T x y)(hd:o.dst=some d)(hn:Nat.ble (d+1) C.n=true)(hx:σ.opd x=some (.lit (.pointer (some ⟨b,off,none⟩))))(hy:σ.opd y=some (.i k j))
  (hT:Qo6 P T=some (n,z)) (h0:0<=j) (h1:j<n):Stp P C o σ (σ.put d (.lit (.pointer (some ⟨b,off+j.toNat*z,none⟩)))):=by
 refine Stp.same hd hn fun φ a w hr=>?_
 refine⟨_,?_,.dat (.lit _)⟩
 simp only [execOp,ho,(hr.opd hx).lit_inv,(hr.opd hy).i_inv,Sem.run_bind,Qps hT h0 h1,Result.andThen_ok,Sem.run_pure,Addr.add_lit]
theorem Stp.loadScr {T d p b off:Nat}{x:Operand}{y:Value}{D:Nat->Nat->Prop}{H:Nat->Nat->Value->Prop}(ho:o.op=.load T x)(hd:o.dst=some d)(hn:Nat.ble (d+1) C.n=true)(hx:σ.opd x=some (.lit (.pointer (some ⟨b,off,none⟩))))
  (hg:Qf8 P T=some false) (hb:look σ.hp p=some (.scr D H)) (h:H b off y):Stp P C o σ (σ.put d (.lit y)):=by
 refine Stp.same hd hn fun φ a w hr=>?_
 refine⟨y,?_,.dat (.lit _)⟩
 have hc:w.cell? ⟨b,off,none⟩=some y:=by
  rcases hr.heap p _ hb with⟨B,_,hs⟩|⟨_,hn⟩
  ·exact(hs.2 b off y h).2.2
  exact absurd h (hn.2 _ _ _)
 simp only [execOp,ho,(hr.opd hx).lit_inv,Sem.run_bind,Qiz hg hc,Result.andThen_ok,Sem.run_pure]
theorem Stp.storeScr {T p b off:Nat}{x y:Operand}{n:Int}{D:Nat->Nat->Prop}{H:Nat->Nat->Value->Prop}(ho:o.op=.store T x y)(hd:o.dst=none)(hx:σ.opd x=some (.lit (.pointer (some ⟨b,off,none⟩))))(hy:σ.opd y=some (.i .i64 n))
  (hs:QfS P T=some 1) (hb:look σ.hp p=some (.scr D H)) (h:D b off):Stp P C o σ (σ.set p (.scr D H)):=by
 refine Stp.skp fun φ a w hr=>?_
 rcases hr.heap p _ hb with⟨B,hB,hsc⟩|⟨_,hn⟩
 ·obtain⟨hBb,cs,E,m,e1,e2⟩:=hsc.1 b off h
  have hlt:off<cs.size:=(Qhe.1 e2).1
  have hv:a.eval y=.int .i64 n:=(hr.opd hy).i_inv
  have hrun:=Qrv (P:=P) (T:=T) (n:=1) (g:=b) (off:=off) (w:=w) (x:=.int .i64 n) hs (by rfl) e1 (by omega) (fun u hu=>by
   have:u=.int .i64 n:=by simpa [Value.cells] using hu
   subst this;rfl)
  generalize hrow:((cs.toList.take off++(Value.int .i64 n).cells.toList++cs.toList.drop (off+1)).toArray:Array Value)=row at hrun
  have hsz:row.size=cs.size:=by
   rw [<-hrow];simp [Value.cells];omega
  have hget:∀i,row[i]? = if i=off then some (.int .i64 n)else cs[i]? := fun i=>by
   rw [<-hrow]
   simp only [QiT,Value.cells]
   by_cases c1:i<off
   ·rw [QhM,QbS (by simp;omega),Qco,if_pos c1,if_neg (by omega)];simp
   by_cases c2:i=off
   ·subst c2
    rw [if_pos rfl,QbS (by simp;omega),QbY (by simp;omega)]
    have:i-min i cs.size=0:=by omega
    simp [this]
   rw [if_neg c2,QbY (by simp;omega)]
   simp only [Qgp,QiU,QeR,QxL]
   simp
   congr 1
   omega
  have hsr:=setRow_heap w b cs row E _ e1
  refine⟨w.setRow b row,φ,?_,?_⟩
  ·simp only [execOp,ho,(hr.opd hx).lit_inv,hv,Sem.run_bind,hrun,Result.andThen_ok,Sem.run_pure]
  rw [hd]
  have hother:∀k,k≠b->(w.setRow b row).heap[k]? = w.heap[k]? := fun k hk=>setRow_other w b k _ hk
  have:=hr.change hB (B':=B) ⟨rfl,rfl,rfl,rfl⟩ (fun _=>rfl) (ob:=.scr D H) (w':=w.setRow b row) rfl rfl rfl (by simp) (fun k _ hne=>hother k fun e=>hne (e▸hBb)) (fun k hk=>⟨by simpa using (hr.lt p B k hB hk).1,.inl hk⟩)
   ⟨fun b' i' h'=>?_,fun b' i' y' h'=>?_⟩
  ·rwa [QvY hB]at this
  ·obtain⟨g1,cs',E',m',g2,g3⟩:=hsc.1 b' i' h'
   refine⟨g1,?_⟩
   by_cases e:b'=b
   ·subst e
    rw [e1]at g2;cases g2
    refine⟨row,E,if i'=off then n else m',hsr,?_⟩
    rw [hget]
    split
    ·rfl
    exact g3
   exact⟨cs',E',m',(hother b' e).trans g2,g3⟩
  obtain⟨g1,g2,g3⟩:=hsc.2 b' i' y' h'
  refine⟨g1,g2,?_⟩
  by_cases e:b'=b
  ·subst e
   have:=QxZ e1 g3
   have hne:i'≠off:=fun e=>g2 (e▸h)
   have h5:=hget i'
   rw [if_neg hne,this]at h5
   simp [World.cell?,hsr,h5]
  exact(World.cell?_of_block (hother b' e)).trans g3
 exact absurd h (hn.1 _ _)
theorem R.denilN {t z β:Nat}(h:look σ.fr t=some (.lit (.slice none 0 0))){a:Act}{w:World}(hR:R C σ a w):R C (σ.put t (.sln β z [])) a w:=by
 obtain⟨φ,hr⟩:=hR
 obtain⟨x,hx,hrep⟩:=hr.frame t _ h
 exact⟨φ,hr.say hx (by rw [hrep.lit_inv];exact .dat (.sln0 _ _ _ _))⟩
theorem AK.denilN {pt:Pt}{t:Nat}(z β:Nat)(h:look σ.fr t=some (.lit (.slice none 0 0)))(k:AK P C Q pt ks (σ.put t (.sln β z []))):AK P C Q pt ks σ:=AK.weaken (fun a w hR=>R.denilN h hR) k
theorem R.denilAN {b z n z' β:Nat}(hb:look σ.hp b=some (.arr z (List.replicate n [.lit (.slice none 0 0)]))){a:Act}{w:World}(h:R C σ a w):R C (σ.set b (.arr z (List.replicate n [.sln β z' []]))) a w:=by
 obtain⟨φ,hr⟩:=h
 by_cases hn:n=0
 ·subst hn
  exact⟨φ,hr.sayOb (ob':=.arr z []) hb (fun _ _ h=>h) (.inl rfl)⟩
 refine⟨φ,hr.sayOb hb (fun B hB hrep=>?_) (.inr fun e=>hn (by simpa using congrArg List.length e))⟩
 obtain⟨h1,h2,h3,cs,E,h4,h5,h6⟩:=hrep
 refine⟨h1,by simpa using h2,fun r hr'=>?_,cs,E,h4,h5,fun i r hi j v hj=>?_⟩
 ·obtain rfl:=Qsr hr'
  have h0:=h3 [.lit (.slice none 0 0)] (List.mem_replicate.2 ⟨hn,rfl⟩)
  exact⟨h0.1,fun v hv=>by simp at hv;subst hv;rfl⟩
 rw [List.getElem?_replicate]at hi
 split at hi
 ·cases hi
  have hlt:=‹i<n›
  match j,hj with
  | 0,hj=>
   cases hj
   obtain⟨x,hx,hD⟩:=h6 i [.lit (.slice none 0 0)] (by rw [List.getElem?_replicate,if_pos hlt]) 0 _ rfl
   exact⟨x,hx,by cases hD;exact .sln0 _ _ _ _⟩
  | j+1,hj=>simp at hj
 cases hi
theorem AK.denilAN {pt:Pt}{b z n:Nat}(z' β:Nat){us:List (List V)}(hb:look σ.hp b=some (.arr z (List.replicate n [.lit (.slice none 0 0)])))(he:List.replicate n [V.sln β z' []]=us)(k:AK P C Q pt ks (σ.set b (.arr z us))):AK P C Q pt ks σ:=by
 subst he
 exact AK.weaken (fun a w h=>R.denilAN hb h) k
end
end Go.Vm
namespace Go.Vm
open Go Go.RowKit
section
variable {P:Program}{C:Ctx}{σ:St}{o:Oper}{A:Nat->Nat}
theorem RR.grow {φ:Nat->Option Blk}{a:Act}{w:World}(hr:RR C φ σ a w){b z T:Nat}{rs:List (List V)}{cs:List V}{ys:Array Value}(hb:look σ.hp b=some (.tbl A z rs))(hlt:b<617)(hz:cs.length=z)(h1:∀v∈cs,v.one=true)
  (hs:ys.size=z) (hc:∀(j:Nat) x v,ys[j]? = some x->cs[j]? = some v->Dat (Imm C φ w) w x v):
  ∃φ',RR C φ' ((σ.kill b).set b (.tbl (fun i=>if i=rs.length then w.heap.size else A i) z (rs++[cs]))) a (w.alloc (.cells ys T)):=by
 generalize hA':(fun i=>if i=rs.length then w.heap.size else A i)=A'
 have hnew:A' rs.length=w.heap.size:=by rw [<-hA'];simp
 have hold:∀i,i<rs.length->A' i=A i:=fun i hi=>by rw [<-hA'];simp [Nat.ne_of_lt hi]
 have hrng:(List.range (rs++[cs]).length).map A'=(List.range rs.length).map A++[w.heap.size]:=by
  rw [QiU,Qkg,Qkh,List.range_succ,List.map_append,Qgq,List.map_nil,hnew]
  congr 1
  exact List.map_congr_left fun i hi=>hold i (QiW.1 hi)
 have hok:(∀r∈rs,Qfe z r)->∀r∈rs++[cs],Qfe z r:=fun h r hr=>by
  rcases Qei.1 hr with hr | hr
  ·exact h r hr
  rw [QnB.1 hr];exact⟨hz,h1⟩
 have row:∀{I:Nat->Prop},(∀k,Imm C φ w k->I k)->∃cs2 E,(w.alloc (.cells ys T)).heap[w.heap.size]? = some (.cells cs2 E (0,0))/\cs2.size=z/\∀(j:Nat) v,cs[j]? = some v->∃x,cs2[j]? = some x/\Dat I (w.alloc (.cells ys T)) x v:=fun {I} hI=>by
  refine⟨ys,T,heap_alloc_new w _,hs,fun j v hv=>?_⟩
  have hj:j<ys.size:=by rw [hs,<-hz];exact(QX.1 hv).1
  exact⟨ys[j],Qe0 hj,(hc j _ v (Qe0 hj) hv).mono fun k hk=>⟨hI k hk,Below.heap_alloc w _ k hk.1⟩⟩
 rcases hr.heap b _ hb with⟨B,hB,hrep⟩|⟨hn,h⟩
 ·let B':Blk:=⟨B.b,B.cap,B.z,B.more++[w.heap.size],B.off⟩
  have hhas:∀k,B'.has k↔B.has k\/k=w.heap.size:=fun k=>by simp [Blk.has,B',or_assoc]
  have hI0:∀k,Imm C φ w k->Imm C (ext φ b B') (w.alloc (.cells ys T)) k:=fun k hk=>⟨by have:=hk.1;simp;omega,hk.2.1,fun o B1 h1=>by
   by_cases e:o=b
   ·subst e;rw [Q4]at h1;cases h1
    rw [hhas];rintro (h2 | h2)
    ·exact hk.2.2 _ B hB h2
    have:=hk.1;omega
   rw [QQ _ e]at h1;exact hk.2.2 o B1 h1⟩
  have:=hr.change hB (B':=B') ⟨rfl,rfl,rfl,rfl⟩ (fun h=>absurd hlt (by omega)) (ob:=.tbl A' z (rs++[cs])) (w':=w.alloc (.cells ys T)) rfl rfl rfl (by simp) (fun k hk _=>Below.heap_alloc w _ k hk)
   (fun k hk=>by
    rcases(hhas k).1 hk with h2 | h2
    ·exact⟨by have:=(hr.lt b B k hB h2).1;simp;omega,.inl h2⟩
    ·exact⟨by simp;omega,.inr (by omega)⟩) (by
    refine⟨by rw [hrng,<-hrep.1];rfl,?_,hok hrep.2.2.1,fun i q hi=>?_⟩
    ·show((B.b::B.more)++[w.heap.size]).Nodup
     rw [List.nodup_append]
     refine⟨hrep.2.1,by simp,fun x hx y hy=>?_⟩
     rw [QnB.1 hy]
     have:=(hr.lt b B x hB (by unfold Blk.has;exact Qbb.1 hx)).1
     omega
    rcases QeF i rs.length with hlt' | hge
    ·rw [QbS hlt']at hi
     obtain⟨cs2,E,g1,g2,g3⟩:=hrep.2.2.2 i q hi
     have hAi:A i<w.heap.size:=(hr.lt b B _ hB ((hrep.has _).2 ⟨i,hlt',rfl⟩)).1
     exact⟨cs2,E,by rw [hold i hlt',Below.heap_alloc w _ _ hAi];exact g1,g2,fun j u hu=>let ⟨x',hx',hD⟩:=g3 j u hu;⟨x',hx',hD.mono fun k hk=>⟨hI0 k hk,Below.heap_alloc w _ k hk.1⟩⟩⟩
    have hi0:i=rs.length:=by have:=(QX.1 hi).1;simp at this;omega
    subst hi0
    rw [QbY (Qc2 _),Nat.sub_self]at hi
    simp at hi;subst hi
    rw [hnew];exact row hI0)
  have h2:=this.reset b (.tbl A' z (rs++[cs])) ⟨_,St.look_set_same _ _ _⟩ (.inl ⟨B',Q4 _ _ _,this.block (Q4 _ _ _) (St.look_set_same _ _ _)⟩)
  rw [St.set_kill]at h2
  exact⟨_,h2⟩
 replace h:rs=[]:=h
 subst h
 have hk:=hr.kill b
 have hnone:look (σ.kill b).hp b=none:=by
  cases h:look (σ.kill b).hp b with
  | none=>rfl
  | some ob=>exact absurd rfl (QcI _ _ _ h).1
 have hdel:del φ b=φ:=by
  funext k
  by_cases e:k=b
  ·subst e;rw [Qsy,hn]
  rw [Qd7 e]
 have hI1:=hk.imm_alloc b 0 0 (.cells ys T) (Qsy _ _)
 refine⟨_,hk.alloc (cap:=0) (z:=0) hnone hlt (ob:=.tbl A' z ([]++[cs])) (obj:=.cells ys T) ⟨?_,by simp,hok (by simp),fun i q hi=>?_⟩⟩
 ·rw [hrng];rfl
 have hi0:i=0:=by have:=(QX.1 hi).1;simp at this;omega
 subst hi0
 simp at hi;subst hi
 have:A' 0=w.heap.size:=hnew
 rw [this]
 exact row fun k hk'=>(hI1 k (by rw [hdel];exact hk')).1
end
end Go.Vm
namespace Go.Vm
open Go Go.RowKit Go.Shelf Go.Lib Go.Proofs
noncomputable def QET (ρ:Ren)(nm:String):Func:={ Body2.n22 ρ with name:=nm }
noncomputable def ovF (ρ:Ren)(nm:String):Func:={ Body2.n29 ρ with name:=nm }
structure QE0 (P:Program) (ρ:Ren) (n1 n2:String) (E z by_:Nat) (zv:Value):Prop where
 mixed:P.follows .mixedOrders=true
 f22:P.funcs[ρ.f 22]? = some (QET ρ n1)
 f29:P.funcs[ρ.f 29]? = some (ovF ρ n2)
 nm:(n2 == "runtime.NumGoroutine")=false
 nx:Extern.findNext (ovF ρ n2)=none
 fd:Extern.find (ovF ρ n2)=some (Extern.SlicesOverlaps.overlaps #[(ρ.t 24),(ρ.t 24)] #[(ρ.t 4)])
 t0:P.underlying (ρ.t 0)=some (TypeDesc.tuple #[])
 t3:P.underlying (ρ.t 3)=some (TypeDesc.int IntKind.i64)
 t4:P.underlying (ρ.t 4)=some (TypeDesc.bool)
 t24:P.underlying (ρ.t 24)=some (TypeDesc.slice E)
 zE:∀w,(Go.sizeOf E).run P w=.ok z w
 iE:(P.info? E).map (fun i=>(i.zero,i.size,i.bytes))=some (some zv,z,by_)
 zc:zv.cells.size=z
 z0:0<z
 small:by_<=32768
variable {P:Program}{ρ:Ren}{n1 n2:String}{E z by_:Nat}{zv:Value}
def Qhk (I:Nat->Prop)(w:World)(z:Nat)(l:List Value)(rs:List (List V)):Prop:=l.length=rs.length*z/\(∀r∈rs,Qfe z r)/\(∀u∈l,u.oneCell'=true)/\∀(i:Nat) r,rs[i]? = some r->∀(j:Nat) v,r[j]? = some v->∃u,l[i*z+j]? = some u/\Dat I w u v
theorem Qhk.append {I:Nat->Prop}{w:World}{l m:List Value}{rs us:List (List V)}(h:Qhk I w z l rs)(k:Qhk I w z m us):Qhk I w z (l++m) (rs++us):=by
 obtain⟨h1,h2,h3,h4⟩:=h
 obtain⟨k1,k2,k3,k4⟩:=k
 obtain⟨g1,g2⟩:=QnE (rest:=[]) (n:=rs.length) rfl h1 h2 k2 k1 h4 k4
 refine⟨by rw [QiU,QiU,h1,k1,Qc1],g1,fun u hu=>(Qei.1 hu).elim (h3 u) (k3 u),by simpa using g2⟩
theorem Qhk.take {I:Nat->Prop}{w:World}{l:List Value}{rs:List (List V)}(h:Qhk I w z l rs){i:Nat}(hi:i<=rs.length):Qhk I w z (l.take (i*z)) (rs.take i):=by
 obtain⟨h1,h2,h3,h4⟩:=h
 have hle:i*z<=rs.length*z:=QcO z hi
 refine⟨by rw [QeR,QeR,h1,Nat.min_eq_left hle,Nat.min_eq_left hi],fun r hr=>h2 r (QiV hr),fun u hu=>h3 u (QiV hu),fun k r hk j v hj=>?_⟩
 rw [Qco]at hk
 split at hk
 ·rename_i hki
  obtain⟨u,hu,hD⟩:=h4 k r hk j v hj
  have hjz:j<z:=by have:=(QX.1 hj).1;rwa [(h2 r (Qaa hk)).1]at this
  have:(k+1)*z<=i*z:=QcO z hki
  rw [Qc1]at this
  exact⟨u,by rw [Qco,if_pos (by omega)];exact hu,hD⟩
 cases hk
theorem Qhk.drop {I:Nat->Prop}{w:World}{l:List Value}{rs:List (List V)}(h:Qhk I w z l rs){i:Nat}(hi:i<=rs.length):Qhk I w z (l.drop (i*z)) (rs.drop i):=by
 obtain⟨h1,h2,h3,h4⟩:=h
 refine⟨by rw [Qmg,Qmg,h1,Nat.sub_mul],fun r hr=>h2 r (QqD hr),fun u hu=>h3 u (QqD hu),fun k r hk j v hj=>?_⟩
 rw [Qgp]at hk
 obtain⟨u,hu,hD⟩:=h4 _ r hk j v hj
 exact⟨u,by rw [Qgp,<-hu];congr 1;rw [Qc1];omega,hD⟩
theorem Qhk.mono {I I':Nat->Prop}{w w':World}(hI:∀k,I k->I' k/\w'.heap[k]? = w.heap[k]?){l:List Value}{rs:List (List V)}(h:Qhk I w z l rs):Qhk I' w' z l rs:=
 ⟨h.1,h.2.1,h.2.2.1,fun i r hi j v hj=>let ⟨u,hu,hD⟩:=h.2.2.2 i r hi j v hj;⟨u,hu,hD.mono hI⟩⟩
section
variable {C:Ctx}{σ:St}{o:Oper}
end
section
variable {P:Program}{C:Ctx}{σ:St}{o:Oper}
theorem Stp.appSB {T U d e e' z z' by_ by' b n m:Nat}{x y:Operand}{rs us rs':List (List V)}{zs:List V}(ho:o.op=.call { callee:=.builtin .append,args:=#[x,y],argTypes:=#[T,U] })
  (hd:o.dst=some d) (hn:Nat.ble (d+1) C.n=true) (hx:σ.opd x=some (.own b n)) (hb:look σ.hp b=some (.arr z rs)) (hb1:Nat.ble 617 b=false) (hnl:rs.length=n)
  (hT:Qas P T=some (e,z,by_)) (hU:Qas P U=some (e',z',by')) (hz:Qaz P e=some zs) (hzl:zs.length=z) (hz0:z≠0) (hb0:1<=by_) (hsm:decide ((n+us.length)*by_<=140737488355328)=true)
  (hy:σ.opd y=some (.sl z us)) (he:rs++us=rs') (hm:n+us.length=m):Stp P C o σ (σ.app b z d m rs'):=
 Stp.appendB ho hd hn hx hb hb1 hnl hT hU hz hzl hz0 (QcA (Nat.le_mul_of_pos_right _ hb0) (Qai hsm)) (Qai hsm) (fun φ a w hr=>(hr.opd hy).source_sl) he hm
theorem Qvd {α β:Type}{us:List α}{y:List β}{n b L:Nat}(h:decide ((n+y.length)*b<=L)=true)(e:us.length=y.length):decide ((n+us.length)*b<=L)=true:=by rw [e];exact h
end
end Go.Vm
