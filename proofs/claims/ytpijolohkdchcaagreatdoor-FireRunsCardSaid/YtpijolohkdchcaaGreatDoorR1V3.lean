/- A part of the proof; what it holds is told at each theorem. -/
import Derived.Test.YtpijolohkdchcaaGreatDoorR1V2
import Derived.Laws.StructEq
import Derived.Laws.Cover3
import Derived.RangeFuncIn
import Derived.Shelf.Sort.Plain
import Derived.Shelf.Slices.In.SortNone
import Derived.Laws.BytesString
import Derived.Shelf.Slices.CompactI
import Derived.Shelf.Strings.Fields
import Derived.Carry
import Derived.ReadAgain
import Derived.OpenShut
import GoSem.ClaimJoined
import Derived.Lib.LaidTab
import Derived.LaidMore
import Derived.MakeChecks
import Derived.Stop.LaidErr
import Derived.Stop.Joined
import Derived.SizedLaws
import Derived.Handed
import Derived.Shelf.Spec.SlicesInsertGrow
set_option linter.unusedVariables false
set_option linter.unusedSimpArgs false
set_option linter.unusedSectionVars false
set_option linter.deprecated false
namespace Go.Vm
open Go Go.RowKit
structure Mut where
 kills:List Nat
 sets:List (Nat×Ob)
 put:Option (Nat×V)
def St.sets (σ:St):List (Nat×Ob)->St
 | []=>σ
 | (o,ob)::r=>(σ.sets r).set o ob
def Mut.run (M:Mut)(σ:St):St:=match M.put with
 | none=>(σ.killL M.kills).sets M.sets
 | some (d,v)=>((σ.killL M.kills).sets M.sets).put d v
def Sub (σ B:St):Prop:=(∀t v,look B.fr t=some v->look σ.fr t=some v)/\∀p ob,look B.hp p=some ob->look σ.hp p=some ob
theorem QnV {b:Nat}:∀(l:List (Nat×V)) (t:Nat),look (QiY b l) t=(look l t).map (V.kill b):=by
 intro l
 induction l with
 | nil=>intro t;rfl
 | cons p l ih=>
  obtain⟨k,v⟩:=p
  intro t
  by_cases e:k=t
  ·subst e;rw [QiY,Qz,Qz];rfl
  rw [QiY,Qu _ _ e,Qu _ _ e];exact ih t
theorem QkY {b:Nat}:∀(l:List (Nat×Ob)) (t:Nat),look (Qfv b l) t=if t=b then none else(look l t).map (Ob.kill b):=by
 intro l t
 by_cases h:t=b
 ·rw [if_pos h]
  cases hl:look (Qfv b l) t with
  | none=>rfl
  | some ob=>obtain⟨h1,_⟩:=Qc0 _ _ _ hl;exact absurd h h1
 rw [if_neg h]
 cases hl:look l t with
 | none=>
  cases hk:look (Qfv b l) t with
  | none=>rfl
  | some ob=>obtain⟨_,ob',h1,_⟩:=Qc0 _ _ _ hk;rw [hl]at h1;cases h1
 | some ob=>exact Qf0 _ _ _ h hl
theorem Sub.kill {σ B:St}(h:Sub σ B)(b:Nat):Sub (σ.kill b) (B.kill b):=by
 refine⟨fun t v hv=>?_,fun p ob hob=>?_⟩
 ·have hv:look (QiY b B.fr) t=some v:=hv
  show look (QiY b σ.fr) t=some v
  rw [QnV]at hv ⊢
  obtain⟨u,hu,rfl⟩:=Qa1.1 hv
  rw [h.1 t u hu];rfl
 have hob:look (Qfv b B.hp) p=some ob:=hob
 show look (Qfv b σ.hp) p=some ob
 rw [QkY]at hob ⊢
 split at hob
 ·cases hob
 rename_i hne
 rw [if_neg hne]
 obtain⟨u,hu,rfl⟩:=Qa1.1 hob
 rw [h.2 p u hu];rfl
theorem Sub.killL : ∀{l:List Nat} {σ B:St},Sub σ B->Sub (σ.killL l) (B.killL l):=by
 intro l
 induction l with
 | nil=>intro σ B h;exact h
 | cons b l ih=>intro σ B h;exact ih (h.kill b)
theorem Sub.set {σ B:St}(h:Sub σ B)(o:Nat)(ob:Ob):Sub (σ.set o ob) (B.set o ob):=by
 refine⟨h.1,fun p u hu=>?_⟩
 by_cases e:p=o
 ·subst e;rw [St.look_set_same]at hu ⊢;exact hu
 rw [St.look_set_other _ _ (Ne.symm e)]at hu ⊢;exact h.2 p u hu
theorem Sub.sets : ∀{l:List (Nat×Ob)} {σ B:St},Sub σ B->Sub (σ.sets l) (B.sets l):=by
 intro l
 induction l with
 | nil=>intro σ B h;exact h
 | cons p l ih=>intro σ B h;exact(ih h).set p.1 p.2
theorem Sub.put {σ B:St}(h:Sub σ B)(d:Nat)(v:V):Sub (σ.put d v) (B.put d v):=by
 refine⟨fun t u hu=>?_,h.2⟩
 have hu:look ((d,v)::B.fr) t=some u:=hu
 show look ((d,v)::σ.fr) t=some u
 by_cases e:d=t
 ·subst e;rw [Qz]at hu ⊢;exact hu
 rw [Qu _ _ e]at hu ⊢;exact h.1 t u hu
theorem Sub.run {σ B:St}(h:Sub σ B)(M:Mut):Sub (M.run σ) (M.run B):=by
 unfold Mut.run
 split
 ·exact h.killL.sets
 exact h.killL.sets.put _ _
def Mut.keeps (M:Mut)(t:Nat)(v:V):Bool:=M.kills.all (fun b=>v.free b)&&(match M.put with | none=>true | some (d,_)=>!(Nat.beq d t))
def Mut.keepsO (M:Mut)(p:Nat):Bool:=M.kills.all (fun b=>!(Nat.beq b p))&&M.sets.all (fun q=>!(Nat.beq q.1 p))
def Ob.keep1 (b:Nat):Ob->Bool
 | .var cs=>cs.all (V.freeC b)
 | .lp _ _ cs _=>cs.all (V.freeC b)
 | _=>true
theorem QBZ : ∀{l:List Nat} {σ:St} {t:Nat} {v:V},l.all (fun b=>v.free b)=true->look σ.fr t=some v->look (σ.killL l).fr t=some v:=by
 intro l
 induction l with
 | nil=>intro σ t v _ h;exact h
 | cons b l ih=>
  intro σ t v hl h
  rw [Qob,QA]at hl
  refine ih hl.2 ?_
  show look (QiY b σ.fr) t=some v
  rw [QnV,h,Qgn,V.kill,hl.1];rfl
theorem QyY : ∀{l:List (Nat×Ob)} {σ:St},(σ.sets l).fr=σ.fr:=by
 intro l
 induction l with
 | nil=>intro σ;rfl
 | cons p l ih=>intro σ;exact ih
theorem Mut.keeps_look {M:Mut}{σ:St}{t:Nat}{v:V}(hk:M.keeps t v=true)(h:look σ.fr t=some v):look (M.run σ).fr t=some v:=by
 unfold Mut.keeps at hk
 rw [QA]at hk
 have h1:look ((σ.killL M.kills).sets M.sets).fr t=some v:=by rw [QyY];exact QBZ hk.1 h
 unfold Mut.run
 split
 ·exact h1
 rename_i d u hp
 rw [hp]at hk
 have hne:d≠t:=Qij hk.2
 show look ((d,u)::_) t=some v
 rw [Qu _ _ hne];exact h1
theorem QyZ : ∀{l:List Nat} {σ:St} {p:Nat},look σ.hp p=none->look (σ.killL l).hp p=none:=by
 intro l
 induction l with
 | nil=>intro σ p h;exact h
 | cons b l ih=>
  intro σ p h
  refine ih ?_
  show look (Qfv b σ.hp) p=none
  rw [QkY,h];simp
theorem QAA : ∀{l:List (Nat×Ob)} {σ:St} {p:Nat},l.all (fun q=>!(Nat.beq q.1 p))=true->look σ.hp p=none->look (σ.sets l).hp p=none:=by
 intro l
 induction l with
 | nil=>intro σ p _ h;exact h
 | cons q l ih=>
  intro σ p hl h
  rw [Qob,QA]at hl
  show look ((σ.sets l).set q.1 q.2).hp p=none
  rw [St.look_set_other _ _ (Qij hl.1)];exact ih hl.2 h
theorem Mut.none_look {M:Mut}{σ:St}{p:Nat}(hk:M.sets.all (fun q=>!(Nat.beq q.1 p))=true)(h:look σ.hp p=none):look (M.run σ).hp p=none:=by
 have h1:look ((σ.killL M.kills).sets M.sets).hp p=none:=QAA hk (QyZ h)
 unfold Mut.run
 split<;>exact h1
theorem Ob.kill_keep {ob:Ob}{b:Nat}(h:ob.keep1 b=true):ob.kill b=ob:=by
 cases ob with
 | var cs=>
  simp only [Ob.keep1,Qad]at h
  simp only [Ob.kill,Ob.var.injEq]
  conv=>rhs;rw [<-List.map_id cs]
  apply List.map_congr_left
  intro v hv
  simp only [V.killC,h v hv,cond_true,id]
 | lp l K cs q=>
  simp only [Ob.keep1,Qad]at h
  simp only [Ob.kill,Ob.lp.injEq,true_and,and_true]
  conv=>rhs;rw [<-List.map_id cs]
  apply List.map_congr_left
  intro v hv
  simp only [V.killC,h v hv,cond_true,id]
 | _=>rfl
theorem QzV : ∀{l:List Nat} {σ:St} {p:Nat} {ob:Ob},l.all (fun b=>!(Nat.beq b p))=true->l.all (fun b=>ob.keep1 b)=true->look σ.hp p=some ob->look (σ.killL l).hp p=some ob:=by
 intro l
 induction l with
 | nil=>intro σ p ob _ _ h;exact h
 | cons b l ih=>
  intro σ p ob hl hp h
  rw [Qob,QA]at hl hp
  refine ih hl.2 hp.2 ?_
  show look (Qfv b σ.hp) p=some ob
  rw [QkY,if_neg (Qij hl.1).symm,h,Qgn,Ob.kill_keep hp.1]
theorem QAB : ∀{l:List (Nat×Ob)} {σ:St} {p:Nat} {ob:Ob},l.all (fun q=>!(Nat.beq q.1 p))=true->look σ.hp p=some ob->look (σ.sets l).hp p=some ob:=by
 intro l
 induction l with
 | nil=>intro σ p ob _ h;exact h
 | cons q l ih=>
  intro σ p ob hl h
  rw [Qob,QA]at hl
  show look ((σ.sets l).set q.1 q.2).hp p=some ob
  rw [St.look_set_other _ _ (Qij hl.1)];exact ih hl.2 h
theorem Mut.keepsO_look {M:Mut}{σ:St}{p:Nat}{ob:Ob}(hk:M.keepsO p=true)(hp:M.kills.all (fun b=>ob.keep1 b)=true)(h:look σ.hp p=some ob):look (M.run σ).hp p=some ob:=by
 unfold Mut.keepsO at hk
 rw [QA]at hk
 have h1:look ((σ.killL M.kills).sets M.sets).hp p=some ob:=QAB hk.2 (QzV hk.1 hp h)
 unfold Mut.run
 split<;>exact h1
section
variable {P:Program}{C:Ctx}{Q:Exit->St->Prop}{ops:Array Oper}{σ:St}{ks:List Fr}
theorem QCN (Inv:Array Bool->St->Prop)
  (step:∀listed σ i o,listed.size=ops.size->QuZ ops listed->i∈Region.ready .any ops listed->ops[i]? = some o->Inv listed σ->∃σ',QbV P C ops o σ σ'/\Inv (listed.setIfInBounds i true) σ')
  (hord:QyU ops=true) (hend:∀listed σ,listed.size=ops.size->(∀i,i<ops.size->listed[i]? = some true)->Inv listed σ->∀a w,R C σ a w->up C Q .normal a w):
  ∀(fuel:Nat) (listed:Array Bool) (a:Act) (w:World) (σ:St),((List.range ops.size).filter fun i=>!(listed[i]? == some true)).length<=fuel->listed.size=ops.size->QuZ ops listed->Inv listed σ->R C σ a w->wpAnyIn C.F 0 P .any ops (up C Q) fuel listed a w:=by
 intro fuel
 have allOf:∀{listed:Array Bool},listed.size=ops.size->Region.ready .any ops listed=[]->∀i,i<ops.size->listed[i]? = some true:=by
  intro listed hs hr
  apply Classical.byContradiction
  intro h
  have hex:∃i,i<ops.size/\listed[i]? ≠ some true:=by
   apply Classical.byContradiction
   intro h'
   exact h fun i hi=>Classical.byContradiction fun hn=>h' ⟨i,hi,hn⟩
  obtain⟨k,h1,h2,h3⟩:=QAn ops.size hex
  have:=QBb hord hs h1 h2 h3
  rw [hr]at this;cases this
 induction fuel with
 | zero=>
  intro listed a w σ hf hs hd hI hR
  have hall:∀i,i<ops.size->listed[i]? = some true:=fun i hi=>by
   have:=QpG.1 (Nat.le_zero.1 hf)
   rw [List.filter_eq_nil_iff]at this
   simpa using this i (QkV.2 hi)
  refine⟨?_,hend listed σ hs hall hI a w hR⟩
  rw [List.eq_nil_iff_forall_not_mem]
  intro i hi
  obtain⟨o,ho,hl,_⟩:=(QmP hs).1 hi
  rw [hall i (Qin.1 ho).1]at hl;cases hl
 | succ fuel ih=>
  intro listed a w σ hf hs hd hI hR
  refine⟨fun hr=>hend listed σ hs (allOf hs hr) hI a w hR,fun i hi=>?_⟩
  obtain⟨o,ho,hl,hdeps⟩:=(QmP hs).1 hi
  obtain⟨σ',hos,hI'⟩:=step listed σ i o hs hd hi ho hI
  have hin:i<listed.size:=by rw [hs];exact(Qin.1 ho).1
  have next:∀a' w',R C σ' a' w'->wpAnyIn C.F 0 P .any ops (up C Q) fuel (listed.setIfInBounds i true) a' w':=fun a' w' hR'=>by
   refine ih _ a' w' σ' ?_ (by simpa using hs) (hd.set hs hi) hI' hR'
   have count:∀(l:List Nat),i∈l->(l.filter fun j=>!((listed.setIfInBounds i true)[j]? == some true)).length+1<=(l.filter fun j=>!(listed[j]? == some true)).length:=by
    intro l
    have le:∀(l:List Nat),(l.filter fun j=>!((listed.setIfInBounds i true)[j]? == some true)).length<=(l.filter fun j=>!(listed[j]? == some true)).length:=by
     intro l
     induction l with
     | nil=>simp
     | cons x l ihl=>
      by_cases e:i=x
      ·subst e
       rw [List.filter_cons_of_neg (by simp [Qse,hin]),List.filter_cons_of_pos (by rw [hl];simp)]
       simp;omega
      simp only [Qmb,QAi e]
      split
      ·simpa using ihl
      exact ihl
    induction l with
    | nil=>intro h;cases h
    | cons x l ihl=>
     intro hm
     by_cases e:i=x
     ·subst e
      rw [List.filter_cons_of_neg (by simp [Qse,hin]),List.filter_cons_of_pos (by rw [hl];simp)]
      have:=le l
      simp;omega
     have hm':i∈l:=by
      rcases Qbm.1 hm with h | h
      ·exact absurd h e
      exact h
     have:=ihl hm'
     simp only [Qmb,QAi e]
     split
     ·simpa using this
     exact this
   have:=count (List.range ops.size) (QkV.2 (by rw [<-hs];exact hin))
   omega
  unfold wpOpIn
  simp only [ho]
  have:=hos a w hR (wpAnyIn C.F 0 P .any ops (up C Q) fuel (listed.setIfInBounds i true)) (up C Q) next
  split
  ·rename_i hw;rw [if_pos hw]at this;exact this
  rename_i hw;rw [if_neg hw]at this;exact⟨fun _ _=>trivial,this⟩
theorem AK.regionInv {id:Nat}(Inv:Array Bool->St->Prop)(hmix:P.follows .mixedOrders=true)
  (step:∀listed σ i o,listed.size=ops.size->QuZ ops listed->i∈Region.ready .any ops listed->ops[i]? = some o->Inv listed σ->∃σ',QbV P C ops o σ σ'/\Inv (listed.setIfInBounds i true) σ')
  (hord:QyU ops=true) (h0:Inv (Array.replicate ops.size false) σ) (hend:∀listed σ',listed.size=ops.size->(∀i,i<ops.size->listed[i]? = some true)->Inv listed σ'->AK P C Q (.x .normal) ks σ'):AK P C Q (.c (.region id ops true)) ks σ:=by
 intro a w hR
 refine wpIn_region_any hmix ?_
 have hR':R C σ a { w with drawn:=w.drawn+1 }:=by
  obtain⟨φ,hr⟩:=hR
  exact⟨φ,hr.step rfl rfl rfl (QcR _) (fun _ _=>rfl)⟩
 refine QCN Inv step hord (fun listed σ' hs hall hI a w hR=>hend listed σ' hs hall hI a w hR) ops.size (Array.replicate ops.size false) a _ σ ?_ (by simp) ?_ h0 hR'
 ·exact QcB (List.length_filter_le _ _) (by simp)
 intro i o _ h
 simp [Array.getElem?_replicate]at h
end
inductive It where
 | add (x:DF) (fl nf:Bool)
 | tn (M:Mut)
def QV : List It->List Mut
 | []=>[]
 | .add _ _ _::r=>QV r
 | .tn M::r=>M::QV r
def bof (base:St):List Mut->St
 | []=>base
 | M::r=>bof (M.run base) r
def QAf (x:DF)(M:Mut):Bool:=match x.ob with | none=>true | some ob=>M.keepsO x.d&&M.kills.all (fun b=>ob.keep1 b)
def QAg (x:DF)(M:Mut):Bool:=M.keeps x.d x.v&&QAf x M
def alv (x:DF)(fl:Bool)(ms:List Mut):Bool:=ms.all (fun M=>M.keeps x.d x.v)
def Qsk (x:DF)(fl:Bool)(ms:List Mut):Bool:=ms.all (QAf x)
def Qm7 (σ:St)(x:DF)(fl:Bool)(ms:List Mut):Prop:=(alv x fl ms=true->look σ.fr x.d=some x.v)/\(Qsk x fl ms=true->∀ob,x.ob=some ob->look σ.hp x.d=some ob)
def Qhy (ops:Array Oper):Nat->Nat->Nat->Bool
 | 0,_,_=>false
 | n+1,i,k=>match ops[k]? with
  | some o=>QlD o i||o.after.toList.any fun e=>Region.binds .any e&&Qhy ops n i e.on
  | none=>false
def QtE (its:List It)(p:Nat):Bool:=match its[p]? with
 | some (.tn _)=>true
 | _=>false
def QDQ (ops:Array Oper)(its:List It):Bool:=(List.range its.length).all fun i=>(List.range its.length).all fun p=>!(QtE its p)||Nat.beq p i ||
 (match its[i]? with | some (.add _ true false)=>true | some _=>bif Nat.ble (p+1) i then Qhy ops 8 p i else Qhy ops 8 i p | none=>true)
def Qqd : List It->List Nat
 | []=>[]
 | .add x _ _::r=>x.d::Qqd r
 | .tn _::r=>Qqd r
def Qkp : List Mut->List Nat
 | []=>[]
 | M::r=>match M.put with
  | some (d,_)=>d::Qkp r
  | none=>Qkp r
def QAC : List Mut->List Nat
 | []=>[]
 | M::r=>M.sets.map Prod.fst++QAC r
def QtF : List It->List Nat
 | []=>[]
 | .add x _ _::r=>match x.ob with
  | some _=>x.d::QtF r
  | none=>QtF r
 | .tn _::r=>QtF r
def Qkq (ms:List Mut):List It->Bool
 | []=>true
 | .add x fl _::r=>(!fl||ms.all (QAg x))&&Qkq ms r
 | .tn _::r=>Qkq ms r
def Qva (ms:List Mut)(S:St):Bool:=S.fr.all (fun p=>ms.all fun M=>M.keeps p.1 p.2)&&S.hp.all (fun p=>ms.all fun M=>M.keepsO p.1&&M.kills.all (fun b=>p.2.keep1 b))
def QAD (base:St)(its:List It):Bool:=QhR (Qqd its)&&(Qqd its).all (fun d=>!(Qab (keys base.fr) d)&&!(Qab (Qkp (QV its)) d)) &&
 (QtF its).all (fun d=>!(Qab (keys base.hp) d))
def QB0 (ops:Array Oper)(its:List It):Bool:=(List.range its.length).all fun i=>(List.range its.length).all fun p=>match its[i]? with
 | some (.add x _ _)=>match its[p]? with
  | some (.tn M)=>x.ob.isNone||!(Qab (M.sets.map Prod.fst) x.d)||Qhy ops 8 i p
  | _=>true
 | _=>true
section
variable {P:Program}{C:Ctx}{Q:Exit->St->Prop}{ops:Array Oper}{ks:List Fr}{base S:St}{its:List It}
def j0 (its:List It)(k:Nat):Nat:=(QV (its.take k)).length
def QsC (P:Program)(C:Ctx)(ops:Array Oper)(base S:St)(its:List It)(i:Nat)(o:Oper):It->Prop
 | .add x fl nf=>match fl&&!nf with
  | false=>∀σ,Sub σ (bof base ((QV its).take (j0 its i)))->(∀k y fl nf,its[k]? = some (.add y fl nf)->QlD o k=true->Qm7 σ y fl (((QV its).take (j0 its i)).drop (j0 its k)))->(x.ob.isSome=true->look σ.hp x.d=none)->QbV P C ops o σ (σ.addF x)
  | true=>∀σ,Sub σ S->(∀k y nf,its[k]? = some (.add y true nf)->QlD o k=true->Qtv σ y)->(x.ob.isSome=true->look σ.hp x.d=none)->QbV P C ops o σ (σ.addF x)
 | .tn M=>∀σ,Sub σ (bof base ((QV its).take (j0 its i)))->(∀k y fl nf,its[k]? = some (.add y fl nf)->QlD o k=true->Qm7 σ y fl (((QV its).take (j0 its i)).drop (j0 its k)))->QbV P C ops o σ (M.run σ)
theorem QhT {listed:Array Bool}(hd:QuZ ops listed):∀(n:Nat) {i k:Nat},Qhy ops n i k=true->listed[k]? = some true->listed[i]? = some true:=by
 intro n
 induction n with
 | zero=>intro i k h;cases h
 | succ n ih=>
  intro i k h hk
  rw [Qhy]at h
  split at h
  ·rename_i o ho
   rw [Qcz]at h
   rcases h with h | h
   ·simp only [QlD,Ql9,QA]at h
    obtain⟨e,he,hb,hon⟩:=h
    have:=hd k o ho hk e (QwY.1 he) hb
    rwa [QaJ hon]at this
   simp only [Ql9,QA]at h
   obtain⟨e,he,hb,hm⟩:=h
   exact ih hm (hd k o ho hk e (QwY.1 he) hb)
  cases h
theorem QwQ {listed:Array Bool}(hs:listed.size=ops.size)(hd:QuZ ops listed){n i k:Nat}(h:Qhy ops n i k=true)(hk:k∈Region.ready .any ops listed):listed[i]? = some true:=by
 obtain⟨o,ho,hl,hdeps⟩:=(QmP hs).1 hk
 cases n with
 | zero=>cases h
 | succ n=>
  rw [Qhy,ho]at h
  dsimp only at h
  rw [Qcz]at h
  rcases h with h | h
  ·simp only [QlD,Ql9,QA]at h
   obtain⟨e,he,hb,hon⟩:=h
   have:=hdeps e (QwY.1 he) hb
   rwa [QaJ hon]at this
  simp only [Ql9,QA]at h
  obtain⟨e,he,hb,hm⟩:=h
  exact QhT hd n hm (hdeps e (QwY.1 he) hb)
theorem QgJ : ∀{l m:List It},QV (l++m)=QV l++QV m:=by
 intro l
 induction l with
 | nil=>intro m;rfl
 | cons x l ih=>intro m;cases x<;>simp [QV,ih]
theorem Qx0 {ms ns:List Mut}:∀{B:St},bof B (ms++ns)=bof (bof B ms) ns:=by
 induction ms with
 | nil=>intro B;rfl
 | cons M ms ih=>intro B;exact ih
theorem QB1 {its:List It}{i:Nat}{M:Mut}(h:its[i]? = some (.tn M)):(QV its)[j0 its i]? = some M/\(QV its).take (j0 its i+1)=(QV its).take (j0 its i)++[M]:=by
 have hlt:=(Q2.1 h).1
 have e:its=its.take i++(.tn M::its.drop (i+1)):=by
  have:its.drop i=its[i]::its.drop (i+1):=Qoc hlt
  have h2:its[i]=.tn M:=by have:=QH hlt;rw [h]at this;exact(Option.some.inj this).symm
  rw [h2]at this
  rw [<-this,List.take_append_drop]
 have e2:QV its=QV (its.take i)++(M::QV (its.drop (i+1))):=by
  conv=>lhs;rw [e]
  rw [QgJ];rfl
 unfold j0
 rw [e2]
 refine⟨by simp,?_⟩
 rw [List.take_append,List.take_append]
 simp [Qip]
theorem QB2 {σ:St}{x:DF}{M:Mut}(hk:QAg x M=true)(h:Qtv σ x):Qtv (M.run σ) x:=by
 unfold QAg QAf at hk
 rw [QA]at hk
 refine⟨Mut.keeps_look hk.1 h.1,fun ob hob=>?_⟩
 rw [hob]at hk
 have hk2:=hk.2
 dsimp only at hk2
 rw [QA]at hk2
 exact Mut.keepsO_look hk2.1 hk2.2 (h.2 ob hob)
theorem Qm7.of {σ:St}{x:DF}{fl:Bool}{ms:List Mut}(h:Qtv σ x):Qm7 σ x fl ms:=⟨fun _=>h.1,fun _=>h.2⟩
theorem Qm7.run {σ:St}{x:DF}{fl:Bool}{ms:List Mut}{M:Mut}(h:Qm7 σ x fl ms):Qm7 (M.run σ) x fl (ms++[M]):=by
 refine⟨fun hal=>?_,fun hal ob hob=>?_⟩
 ·simp only [alv,List.all_append,QA,Qob,List.all_nil,Bool.and_true]at hal
  exact Mut.keeps_look hal.2 (h.1 (by simp only [alv];exact hal.1))
 simp only [Qsk,List.all_append,QA,Qob,List.all_nil,Bool.and_true]at hal
 have h1:=h.2 (by simp only [Qsk];exact hal.1) ob hob
 have hk:=hal.2
 unfold QAf at hk
 rw [hob]at hk
 dsimp only at hk
 rw [QA]at hk
 exact Mut.keepsO_look hk.1 hk.2 h1
theorem QCO {p:Nat}{M:Mut}(h:its[p]? = some (.tn M)):j0 its (p+1)=j0 its p+1:=by
 have hlt:=(Q2.1 h).1
 unfold j0
 rw [QjA,h,QgJ];simp [QV]
theorem Qx1 : ∀{a b:Nat},a<=b->j0 its a<=j0 its b:=by
 intro a b h
 unfold j0
 obtain⟨c,rfl⟩:=Nat.exists_eq_add_of_le h
 rw [List.take_add,QgJ];simp
theorem QB3 {p i:Nat}{M:Mut}(h:its[p]? = some (.tn M))(hpi:p<i):j0 its p<j0 its i:=by
 have:=QCO h
 have:=Qx1 (its:=its) (show p+1<=i from hpi)
 omega
theorem Qv8 : ∀{its:List It} {c:Nat},c<(QV its).length->∃p M,its[p]? = some (.tn M)/\j0 its p=c:=by
 intro its
 induction its with
 | nil=>intro c h;simp [QV]at h
 | cons it its ih=>
  intro c h
  cases it with
  | add x fl=>
   obtain⟨p,M,h1,h2⟩:=ih (c:=c) h
   exact⟨p+1,M,by simpa using h1,by simpa [j0,QV] using h2⟩
  | tn M=>
   cases c with
   | zero=>exact⟨0,M,rfl,by simp [j0,QV]⟩
   | succ c=>
    obtain⟨p,M',h1,h2⟩:=ih (c:=c) (by simpa [QV] using h)
    exact⟨p+1,M',by simpa using h1,by simpa [j0,QV] using h2⟩
theorem QAE {p:Nat}{M:Mut}(h:its[p]? = some (.tn M)):j0 its p<(QV its).length:=(Q2.1 (QB1 h).1).1
theorem Sub.stable : ∀{ms:List Mut} {B S:St},Qva ms S=true->Sub B S->∀n,Sub (bof B (ms.take n)) S:=by
 intro ms
 induction ms with
 | nil=>intro B S _ h n;simpa [bof] using h
 | cons M ms ih=>
  intro B S hk h n
  cases n with
  | zero=>exact h
  | succ n=>
   unfold Qva at hk
   rw [QA,Qad,Qad]at hk
   refine ih (B:=M.run B) ?_ ⟨fun t v hv=>?_,fun p ob hob=>?_⟩ n
   ·unfold Qva
    rw [QA,Qad,Qad]
    exact⟨fun p hp=>by have:=hk.1 p hp;rw [Qob,QA]at this;exact this.2,fun p hp=>by have:=hk.2 p hp;rw [Qob,QA]at this;exact this.2⟩
   ·have:=hk.1 (t,v) (Qbj hv)
    rw [Qob,QA]at this
    exact Mut.keeps_look this.1 (h.1 t v hv)
   have:=hk.2 (p,ob) (Qbj hob)
   rw [Qob,QA,QA]at this
   exact Mut.keepsO_look this.1.1 this.1.2 (h.2 p ob hob)
theorem QtG : ∀{its:List It} {i:Nat} {x:DF} {fl nf:Bool},its[i]? = some (.add x fl nf)->x.d∈Qqd its/\(x.ob.isSome=true->x.d∈QtF its):=by
 intro its
 induction its with
 | nil=>intro i x fl nf h;simp at h
 | cons it its ih=>
  intro i x fl nf h
  cases i with
  | zero=>
   simp at h;subst h
   refine⟨QbE,fun hs=>?_⟩
   rw [QtF];split
   ·exact QbE
   rename_i he;rw [he]at hs;cases hs
  | succ i=>
   obtain⟨a,b⟩:=ih (i:=i) (by simpa using h)
   cases it with
   | add y fl' nf'=>
    refine⟨Qca _ a,fun hs=>?_⟩
    rw [QtF];split
    ·exact Qca _ (b hs)
    exact b hs
   | tn M=>exact⟨a,b⟩
theorem Qw2 : ∀{its:List It},(Qqd its).Nodup->∀{i k:Nat} {x y:DF} {fl fl' nf nf':Bool},its[i]? = some (.add x fl nf)->its[k]? = some (.add y fl' nf')->x.d=y.d->i=k:=by
 intro its
 induction its with
 | nil=>intro _ i k x y fl fl' nf nf' h;simp at h
 | cons it its ih=>
  intro hn i k x y fl fl' nf nf' hi hk e
  cases it with
  | tn M=>
   cases i with
   | zero=>simp at hi
   | succ i=>cases k with
    | zero=>simp at hk
    | succ k=>rw [ih hn (i:=i) (k:=k) (by simpa using hi) (by simpa using hk) e]
  | add z f g=>
   rw [Qqd,Qme]at hn
   cases i with
   | zero=>
    cases k with
    | zero=>rfl
    | succ k=>
     simp at hi;obtain⟨rfl,rfl,rfl⟩:=hi
     exact absurd (by rw [e];exact(QtG (i:=k) (by simpa using hk)).1) hn.1
   | succ i=>
    cases k with
    | zero=>
     simp at hk;obtain⟨rfl,rfl,rfl⟩:=hk
     exact absurd (by rw [<-e];exact(QtG (i:=i) (by simpa using hi)).1) hn.1
    | succ k=>rw [ih hn.2 (i:=i) (k:=k) (by simpa using hi) (by simpa using hk) e]
theorem QDR {M:Mut}{B:St}{t:Nat}{v:V}(h:look (M.run B).fr t=some v):(∃u,look B.fr t=some u)\/∃u,M.put=some (t,u):=by
 have kill:∀{l:List Nat} {B:St} {v:V},look (B.killL l).fr t=some v->∃u,look B.fr t=some u:=by
  intro l
  induction l with
  | nil=>intro B v h;exact⟨v,h⟩
  | cons b l ih=>
   intro B v h
   obtain⟨u,hu⟩:=ih h
   have hu:look (QiY b B.fr) t=some u:=hu
   rw [QnV]at hu
   obtain⟨w,hw,_⟩:=Qa1.1 hu
   exact⟨w,hw⟩
 unfold Mut.run at h
 split at h
 ·rw [QyY]at h;exact .inl (kill h)
 rename_i d u hp
 by_cases e:d=t
 ·subst e;exact .inr ⟨u,hp⟩
 have h:look ((d,u)::((B.killL M.kills).sets M.sets).fr) t=some v:=h
 rw [Qu _ _ e,QyY]at h;exact .inl (kill h)
theorem QCP {M:Mut}{B:St}{p:Nat}{ob:Ob}(h:look (M.run B).hp p=some ob):(∃u,look B.hp p=some u)\/p∈M.sets.map Prod.fst:=by
 have kill:∀{l:List Nat} {B:St} {ob:Ob},look (B.killL l).hp p=some ob->∃u,look B.hp p=some u:=by
  intro l
  induction l with
  | nil=>intro B ob h;exact⟨ob,h⟩
  | cons b l ih=>
   intro B ob h
   obtain⟨u,hu⟩:=ih h
   have hu:look (Qfv b B.hp) p=some u:=hu
   rw [QkY]at hu
   split at hu
   ·cases hu
   obtain⟨w,hw,_⟩:=Qa1.1 hu
   exact⟨w,hw⟩
 have sets:∀{l:List (Nat×Ob)} {B:St} {ob:Ob},look (B.sets l).hp p=some ob->(∃u,look B.hp p=some u)\/p∈l.map Prod.fst:=by
  intro l
  induction l with
  | nil=>intro B ob h;exact .inl ⟨ob,h⟩
  | cons q l ih=>
   intro B ob h
   by_cases e:q.1=p
   ·exact .inr (by rw [Qgm,e];exact QbE)
   have h:look ((B.sets l).set q.1 q.2).hp p=some ob:=h
   rw [St.look_set_other _ _ e]at h
   exact(ih h).imp id (Qca _)
 have h1:look ((B.killL M.kills).sets M.sets).hp p=some ob:=by
  unfold Mut.run at h
  split at h<;>exact h
 rcases sets h1 with⟨u,hu⟩|h2
 ·exact .inl (kill hu)
 exact .inr h2
theorem QDS : ∀{ms:List Mut} {B:St} {t:Nat} {v:V},look (bof B ms).fr t=some v->(∃u,look B.fr t=some u)\/t∈Qkp ms:=by
 intro ms
 induction ms with
 | nil=>intro B t v h;exact .inl ⟨v,h⟩
 | cons M ms ih=>
  intro B t v h
  rcases ih h with⟨u,hu⟩|h
  ·rcases QDR hu with h | ⟨u,hp⟩
   ·exact .inl h
   refine .inr ?_;rw [Qkp,hp];exact QbE
  refine .inr ?_;rw [Qkp];split
  ·exact Qca _ h
  exact h
theorem QCQ : ∀{ms:List Mut} {B:St} {p:Nat} {ob:Ob},look (bof B ms).hp p=some ob->(∃u,look B.hp p=some u)\/p∈QAC ms:=by
 intro ms
 induction ms with
 | nil=>intro B p ob h;exact .inl ⟨ob,h⟩
 | cons M ms ih=>
  intro B p ob h
  rcases ih h with⟨u,hu⟩|h
  ·rcases QCP hu with h | h
   ·exact .inl h
   exact .inr (List.mem_append_left _ h)
  exact .inr (List.mem_append_right _ h)
theorem QBf : ∀{ms:List Mut} {n t:Nat},t∈Qkp (ms.take n)->t∈Qkp ms:=by
 intro ms
 induction ms with
 | nil=>intro n t h;simpa using h
 | cons M ms ih=>
  intro n t h
  cases n with
  | zero=>simp [Qkp]at h
  | succ n=>
   rw [List.take_succ_cons,Qkp]at h
   rw [Qkp]
   split at h
   ·rcases Qbm.1 h with rfl | h
    ·exact QbE
    exact Qca _ (ih h)
   exact ih h
def QF7 (base:St)(its:List It)(listed:Array Bool)(σ:St):Prop:=∃j,j<=(QV its).length/\(∀p M,its[p]? = some (.tn M)->(listed[p]? = some true↔j0 its p<j))/\Sub σ (bof base ((QV its).take j))/\
 ∀i x fl nf,its[i]? = some (.add x fl nf)->(listed[i]? = some true->Qm7 σ x fl (((QV its).take j).drop (j0 its i)))/\(listed[i]? ≠ some true->x.ob.isSome=true->look σ.hp x.d=none)/\(fl=true->listed[i]? = some true->Qkq (QV its) its=true\/j<(QV its).length->Qtv σ x)
def QEY (ops:Array Oper)(its:List It):Bool:=QtE its (its.length-1)&&(List.range (its.length-1)).all fun i=>Qhy ops 8 i (its.length-1)
def Qy0 (ops:Array Oper)(ms:List Mut)(its:List It):Bool:=Qkq ms its||(Qkq (ms.take (ms.length-1)) its&&QEY ops its)
def QDT (its:List It)(i:Nat):Bool:=match its[i]? with
 | some (.add _ true false)=>true
 | _=>false
def QEZ (ops:Array Oper)(its:List It)(p:Nat):Bool:=QtE its p&&Nat.beq (j0 its p+1) (QV its).length&&(List.range its.length).all fun i=>!QDT its i||Qhy ops 8 i p
def Qy1 (ops:Array Oper)(its:List It)(ms:List Mut)(S:St):Bool:=Qva ms S||(Qva (ms.take (ms.length-1)) S&&(List.range its.length).any (QEZ ops its))
theorem AK.drawV {id:Nat}(hmix:P.follows .mixedOrders=true)(hlen:its.length=ops.size)(hord:QyU ops=true)(hov:QDQ ops its=true)(hap:QAD base its=true)(hsv:QB0 ops its=true)(hfk:Qy0 ops (QV its) its=true)(hsk:Qy1 ops its (QV its) S=true)(hS:Sub base S)
  (steps:∀i o it,ops[i]? = some o->its[i]? = some it->QsC P C ops base S its i o it)
  (k:∀σ,Sub σ (bof base (QV its))->(∀i x fl nf,its[i]? = some (.add x fl nf)->Qm7 σ x fl ((QV its).drop (j0 its i)))->AK P C Q (.x .normal) ks σ):AK P C Q (.c (.region id ops true)) ks base:=by
 simp only [QAD,QA,Qad,Qfd]at hap
 obtain⟨⟨hnd,hd1⟩,hd2⟩:=hap
 have hnd:=Qc5.1 hnd
 have ord:∀i p it M,its[i]? = some it->its[p]? = some (.tn M)->p≠i->(∀x,it≠.add x true false)->(p<i->Qhy ops 8 p i=true)/\(i<p->Qhy ops 8 i p=true):=by
  intro i p it M hi hp hne hnf
  have hil:=(Q2.1 hi).1
  have hpl:=(Q2.1 hp).1
  unfold QDQ at hov
  rw [Qad]at hov
  have h1:=hov i (QkV.2 hil)
  rw [Qad]at h1
  have h2:=h1 p (QkV.2 hpl)
  have hm:QtE its p=true:=by unfold QtE;rw [hp]
  have hb:Nat.beq p i=false:=by cases hb:Nat.beq p i with
   | true=>exact absurd (QaJ hb) hne
   | false=>rfl
  rw [hm,hb,hi]at h2
  simp only [Qfe,Bool.false_or]at h2
  have h3:(bif Nat.ble (p+1) i then Qhy ops 8 p i else Qhy ops 8 i p)=true:=by
   cases it with
   | add x fl nf=>cases fl with
    | true=>cases nf with
     | false=>exact absurd rfl (hnf x)
     | true=>exact h2
    | false=>exact h2
   | tn M=>exact h2
  refine⟨fun h=>?_,fun h=>?_⟩
  ·rw [show Nat.ble (p+1) i=true from Qrq h]at h3;exact h3
  have:Nat.ble (p+1) i=false:=by cases hc:Nat.ble (p+1) i with
   | true=>have:=Qcb hc;omega
   | false=>rfl
  rw [this]at h3;exact h3
 have sets:∀(i p:Nat) (x:DF) (fl nf:Bool) (M:Mut),its[i]? = some (.add x fl nf)->its[p]? = some (.tn M)->x.ob.isSome=true->x.d∈M.sets.map Prod.fst->Qhy ops 8 i p=true:=by
  intro i p x fl nf M hi hp hob hmem
  have hil:=(Q2.1 hi).1
  have hpl:=(Q2.1 hp).1
  unfold QB0 at hsv
  rw [Qad]at hsv
  have h1:=hsv i (QkV.2 hil)
  rw [Qad]at h1
  have h2:=h1 p (QkV.2 hpl)
  rw [hi,hp]at h2
  dsimp only at h2
  rw [Qkn.2 hmem]at h2
  have:x.ob.isNone=false:=by cases hx:x.ob with
   | none=>rw [hx]at hob;cases hob
   | some=>rfl
  rw [this]at h2
  simpa using h2
 have memSets:∀{ms:List Mut} {d:Nat},d∈QAC ms->∃(c:Nat) (M:Mut),ms[c]? = some M/\d∈M.sets.map Prod.fst:=by
  intro ms
  induction ms with
  | nil=>intro d h;cases h
  | cons N ms ih=>
   intro d h
   rcases Qcm.1 h with h | h
   ·exact⟨0,N,rfl,h⟩
   obtain⟨c,M,h1,h2⟩:=ih h;exact⟨c+1,M,by simpa using h1,h2⟩
 have all:∀{l:List It} {ms:List Mut},Qkq ms l=true->∀{q:Nat} {y:DF} {nf:Bool},l[q]? = some (.add y true nf)->ms.all (QAg y)=true:=by
  intro l
  induction l with
  | nil=>intro ms _ q y nf h;simp at h
  | cons it l ih=>
   intro ms h q y nf hq
   cases it with
   | add z f g=>
    rw [Qkq,QA]at h
    cases q with
    | zero=>simp at hq;obtain⟨rfl,rfl,rfl⟩:=hq;simpa using h.1
    | succ q=>exact ih h.2 (by simpa using hq)
   | tn M=>
    cases q with
    | zero=>simp at hq
    | succ q=>exact ih h (by simpa using hq)
 have lst:Qkq (QV its) its=true\/(Qkq ((QV its).take ((QV its).length-1)) its=true/\(∃M,its[its.length-1]? = some (.tn M)/\j0 its (its.length-1)+1=(QV its).length)/\∀i,i<its.length-1->Qhy ops 8 i (its.length-1)=true):=by
  unfold Qy0 at hfk
  rw [Qcz,QA]at hfk
  refine hfk.imp_right fun h=>⟨h.1,?_⟩
  have h2:=h.2
  unfold QEY at h2
  rw [QA,Qad]at h2
  obtain⟨p1,p2⟩:=h2
  refine⟨?_,fun i hi=>p2 i (QkV.2 hi)⟩
  unfold QtE at p1
  split at p1
  ·rename_i M hM
   refine⟨M,hM,?_⟩
   have h3:=QCO hM
   have hl:=(Q2.1 hM).1
   have h4:j0 its its.length=(QV its).length:=by unfold j0;rw [Qht]
   rw [show its.length-1+1=its.length by omega]at h3
   omega
  cases p1
 refine AK.regionInv (QF7 base its) hmix ?_ hord ?_ ?_
 ·intro listed σ i o hs hd hi ho ⟨j,hj,hmu,hsub,hadd⟩
  obtain⟨o',ho',hl,hdeps⟩:=(QmP hs).1 hi
  rw [ho]at ho';cases ho'
  have hio:i<ops.size:=(Qin.1 ho).1
  have hil:i<its.length:=by omega
  have hin:i<listed.size:=by omega
  obtain⟨it,hit⟩:∃it,its[i]? = some it:=⟨_,QH hil⟩
  have hnl:listed[i]? ≠ some true:=by rw [hl];simp
  have hst:=steps i o it ho hit
  have depsL:∀{q:Nat},QlD o q=true->listed[q]? = some true:=fun hdep=>by
   simp only [QlD,Ql9,QA]at hdep
   obtain⟨e,he,hb,hon⟩:=hdep
   have:=hdeps e (QwY.1 he) hb
   rwa [QaJ hon]at this
  have stage:(∀x,it≠.add x true false)->j=j0 its i:=by
   intro hnf
   apply Nat.le_antisymm
   ·rcases Qe1 (j0 its i) j with hlt | h
    ·obtain⟨p,M,hp,hpj⟩:=Qv8 (its:=its) (c:=j0 its i) (by omega)
     have hpl:listed[p]? = some true:=(hmu p M hp).2 (by omega)
     rcases Nat.lt_trichotomy p i with h | h | h
     ·have:=QB3 hp h;omega
     ·subst h;exact absurd hpl hnl
     have hm:=(ord i p it M hit hp (by omega) hnf).2 h
     exact absurd (QhT hd 8 hm hpl) hnl
    exact h
   rcases Nat.eq_zero_or_pos (j0 its i)with h | h
   ·omega
   have hle:j0 its i<=(QV its).length:=by
    have h1:=Qx1 (its:=its) (show i<=its.length by omega)
    have h2:j0 its its.length=(QV its).length:=by unfold j0;rw [Qht]
    omega
   obtain⟨p,M,hp,hpj⟩:=Qv8 (its:=its) (c:=j0 its i-1) (by omega)
   have hpi:p<i:=by
    rcases Nat.lt_trichotomy p i with h' | h' | h'
    ·exact h'
    ·subst h';omega
    have:=Qx1 (its:=its) (Nat.le_of_lt h');omega
   have hm:=(ord i p it M hit hp (by omega) hnf).1 hpi
   have:=(hmu p M hp).1 (QwQ hs hd hm hi)
   omega
  have setL:∀q,(listed.setIfInBounds i true)[q]? = some true↔q=i\/listed[q]? = some true:=fun q=>by
   by_cases e:i=q
   ·subst e;simp [Qse,hin]
   rw [QAi e];simp [Ne.symm e]
  cases it with
  | tn M=>
   have hjj:=stage fun x e=>by cases e
   subst hjj
   have hM:=QB1 hit
   have hos:QbV P C ops o σ (M.run σ):=hst σ hsub fun q y fl nf hq hdep=>(hadd q y fl nf hq).1 (depsL hdep)
   have flt:∀{q:Nat} {y:DF} {fl nf:Bool},fl=true->listed[q]? = some true->its[q]? = some (.add y fl nf)->Qkq (QV its) its=true\/j0 its i+1<(QV its).length->Qtv (M.run σ) y:=by
    intro q y fl nf hfl hql hq hz
    subst hfl
    have h1:=(hadd q y true nf hq).2.2 rfl hql (hz.imp_right fun h=>by omega)
    refine QB2 ?_ h1
    rcases lst with h | ⟨h,_,_⟩
    ·exact Qad.1 (all h hq) M (Qae hM.1)
    rcases hz with hz | hz
    ·exact Qad.1 (all hz hq) M (Qae hM.1)
    refine Qad.1 (all h hq) M (Qae (i:=j0 its i) ?_)
    rw [List.getElem?_take_of_lt (by omega)];exact hM.1
   refine⟨_,hos,j0 its i+1,by have:=QAE hit;omega,fun p M' hp=>?_,?_,fun q y fl nf hq=>⟨fun hql=>?_,fun hql hob=>?_,fun hfl hql hz=>?_⟩⟩
   ·rw [setL]
    constructor
    ·rintro (rfl | h)
     ·omega
     have:=(hmu p M' hp).1 h;omega
    intro h
    rcases Qe1 (j0 its p) (j0 its i)with h1 | h1
    ·exact .inr ((hmu p M' hp).2 h1)
    left
    rcases Nat.lt_trichotomy p i with h' | h' | h'
    ·have:=QB3 hp h';omega
    ·exact h'
    have:=QB3 hit h';omega
   ·rw [hM.2,Qx0];exact hsub.run M
   ·rcases(setL q).1 hql with rfl | hql
    ·rw [hit]at hq;cases hq
    rcases Qe1 (j0 its i) (j0 its q)with hlt | hle
    ·cases fl with
     | true=>
      refine Qm7.of (flt rfl hql hq ?_)
      rcases lst with h | ⟨_,⟨M',hp,hpj⟩,_⟩
      ·exact .inl h
      right
      have hqi:q<=its.length-1:=by have:=(Q2.1 hq).1;omega
      have:=Qx1 (its:=its) hqi
      omega
     | false=>
      exfalso
      have hiq:i<q:=by
       rcases Qe1 i q with h | h
       ·exact h
       have:=Qx1 (its:=its) h;omega
      have hm:=(ord q i _ M hq hit (by omega) (fun x e=>by cases e)).1 hiq
      exact absurd (QhT hd 8 hm hql) hnl
    rw [hM.2,List.drop_append_of_le_length (by simp;have:=QAE hit;omega)]
    exact((hadd q y fl nf hq).1 hql).run
   ·have hqi:q≠i:=fun e=>by subst e;rw [hit]at hq;cases hq
    have hql':listed[q]? ≠ some true:=fun h=>hql ((setL q).2 (.inr h))
    refine Mut.none_look ?_ ((hadd q y fl nf hq).2.1 hql' hob)
    rw [Qad]
    intro r hr
    cases hb:Nat.beq r.1 y.d with
    | false=>rfl
    | true=>
     have hm:=sets q i y fl nf M hq hit hob (by rw [<-QaJ hb];exact List.mem_map_of_mem hr)
     exact absurd (QwQ hs hd hm hi) hql'
   refine flt hfl ((setL q).1 hql |>.resolve_left fun e=>by subst e;rw [hit]at hq;cases hq) hq hz
  | add x fl nf=>
   have hfresh:x.ob.isSome=true->look σ.hp x.d=none:=(hadd i x fl nf hit).2.1 hnl
   have hos:QbV P C ops o σ (σ.addF x):=by
    have hB:¬(fl=true/\nf=false)->(∀σ,Sub σ (bof base ((QV its).take (j0 its i)))->(∀k y fl nf,its[k]? = some (.add y fl nf)->QlD o k=true->Qm7 σ y fl (((QV its).take (j0 its i)).drop (j0 its k)))->(x.ob.isSome=true->look σ.hp x.d=none)->QbV P C ops o σ (σ.addF x))->QbV P C ops o σ (σ.addF x):=fun hne hst=>by
     have hjj:=stage fun y e=>by cases e;exact hne ⟨rfl,rfl⟩
     subst hjj
     exact hst σ hsub (fun q y fl nf hq hdep=>(hadd q y fl nf hq).1 (depsL hdep)) hfresh
    cases fl with
    | true=>cases nf with
     | false=>
      have h1:Sub base S:=hS
      have hZ:Qkq (QV its) its=true\/j<(QV its).length:=by
       refine lst.imp_right fun ⟨_,⟨M,hp,hpj⟩,hall⟩=>?_
       rcases Qe1 j (QV its).length with h | h
       ·exact h
       exfalso
       have hpl:=(hmu _ M hp).2 (by omega)
       have hne:i≠its.length-1:=fun e=>by rw [<-e,hit]at hp;cases hp
       exact absurd (QhT hd 8 (hall i (by omega)) hpl) hnl
      have h2:Sub (bof base ((QV its).take j)) S:=by
       unfold Qy1 at hsk
       rw [Qcz]at hsk
       rcases hsk with hsk | hsk
       ·exact Sub.stable hsk h1 j
       rw [QA,Ql9]at hsk
       obtain⟨hs1,p,_,hp⟩:=hsk
       unfold QEZ at hp
       simp only [QA]at hp
       obtain⟨⟨p1,p2⟩,p3⟩:=hp
       have hjm:j<=(QV its).length-1:=by
        rcases Qe1 ((QV its).length-1) j with hlt | h
        ·exfalso
         obtain⟨M,hM⟩:∃M,its[p]? = some (.tn M):=by
          unfold QtE at p1
          split at p1
          ·exact⟨_,‹_›⟩
          cases p1
         have p2:=QaJ p2
         have hpl:=(hmu p M hM).2 (by omega)
         have h3:=Qad.1 p3 i (QkV.2 hil)
         have hf:QDT its i=true:=by unfold QDT;rw [hit]
         rw [hf]at h3
         exact absurd (QhT hd 8 h3 hpl) hnl
        exact h
       have h4:=Sub.stable hs1 h1 j
       rwa [List.take_take,Nat.min_eq_left hjm]at h4
      exact hst σ ⟨fun t v h=>hsub.1 t v (h2.1 t v h),fun p ob h=>hsub.2 p ob (h2.2 p ob h)⟩ (fun q y nf hq hdep=>(hadd q y true nf hq).2.2 rfl (depsL hdep) hZ) hfresh
     | true=>exact hB (fun e=>by cases e.2) hst
    | false=>exact hB (fun e=>by cases e.1) hst
   obtain⟨hmd,hmo⟩:=QtG hit
   have frK:∀t v,t≠x.d->look σ.fr t=some v->look (σ.addF x).fr t=some v:=by
    intro t v hne h
    unfold St.addF
    split
    ·show look ((x.d,x.v)::σ.fr) t=some v
     rw [Qu _ _ (Ne.symm hne)];exact h
    show look ((x.d,x.v)::σ.fr) t=some v
    rw [Qu _ _ (Ne.symm hne)];exact h
   have hpK:∀p,(p≠x.d\/x.ob=none)->look (σ.addF x).hp p=look σ.hp p:=by
    intro p hne
    unfold St.addF
    split
    ·rfl
    rename_i ob hob
    rcases hne with hne | hne
    ·exact σ.look_set_other _ (Ne.symm hne)
    rw [hob]at hne;cases hne
   refine⟨_,hos,j,hj,fun p M hp=>?_,⟨fun t v h=>?_,fun p ob h=>?_⟩,fun q y fl' nf' hq=>⟨fun hql=>?_,fun hql hob=>?_,fun hfl hql hz=>?_⟩⟩
   ·rw [setL,<-hmu p M hp]
    have:p≠i:=fun e=>by subst e;rw [hit]at hp;cases hp
    simp [this]
   ·refine frK t v (fun e=>?_) (hsub.1 t v h)
    subst e
    have h1:=hd1 _ hmd
    rcases QDS h with⟨u,hu⟩|h2
    ·rw [Qp7 hu]at h1;cases h1.1
    rw [Qkn.2 (QBf h2)]at h1;cases h1.2
   ·have hne:p≠x.d\/x.ob=none:=by
     cases hob:x.ob with
     | none=>exact .inr rfl
     | some ob'=>
      refine .inl fun e=>?_
      subst e
      have hob':x.ob.isSome=true:=by rw [hob];rfl
      have h1:=hd2 _ (hmo hob')
      rcases QCQ h with⟨u,hu⟩|h2
      ·rw [Qp7 hu]at h1;cases h1
      obtain⟨c,M,h3,h4⟩:=memSets h2
      have hc:c<j:=by
       have:=(Q2.1 h3).1
       simp at this;omega
      have h3':(QV its)[c]? = some M:=by rw [List.getElem?_take_of_lt hc]at h3;exact h3
      obtain⟨p',M',hp',hpc⟩:=Qv8 (its:=its) (c:=c) (Q2.1 h3').1
      have h5:=(QB1 hp').1
      rw [hpc,h3']at h5;cases h5
      have hm:=sets i p' x fl nf M hit hp' hob' h4
      exact absurd (QhT hd 8 hm ((hmu p' M hp').2 (by omega))) hnl
    rw [hpK p hne];exact hsub.2 p ob h
   ·by_cases e:q=i
    ·subst e
     rw [hit]at hq;cases hq
     refine Qm7.of ⟨?_,fun ob hob=>?_⟩
     ·unfold St.addF
      split<;>exact Qz _ _ _
     unfold St.addF
     rw [hob];exact Qz _ _ _
    have hql':listed[q]? = some true:=((setL q).1 hql).resolve_left e
    obtain⟨h1,h2⟩:=(hadd q y fl' nf' hq).1 hql'
    have hne:y.d≠x.d:=fun h=>e (Qw2 hnd hq hit h)
    exact⟨fun hal=>frK _ _ hne (h1 hal),fun hal ob hob=>by rw [hpK _ (.inl hne)];exact h2 hal ob hob⟩
   ·have e:q≠i:=fun e=>hql ((setL q).2 (.inl e))
    have hql':listed[q]? ≠ some true:=fun h=>hql ((setL q).2 (.inr h))
    have hne:y.d≠x.d:=fun h=>e (Qw2 hnd hq hit h)
    rw [hpK _ (.inl hne)];exact(hadd q y fl' nf' hq).2.1 hql' hob
   by_cases e:q=i
   ·subst e
    rw [hit]at hq;cases hq
    refine⟨?_,fun ob hob=>?_⟩
    ·unfold St.addF
     split<;>exact Qz _ _ _
    unfold St.addF
    rw [hob];exact Qz _ _ _
   have hql':listed[q]? = some true:=((setL q).1 hql).resolve_left e
   obtain⟨h1,h2⟩:=(hadd q y fl' nf' hq).2.2 hfl hql' hz
   have hne:y.d≠x.d:=fun h=>e (Qw2 hnd hq hit h)
   exact⟨frK _ _ hne h1,fun ob hob=>by rw [hpK _ (.inl hne)];exact h2 ob hob⟩
 ·refine⟨0,Nat.zero_le _,fun p M _=>by simp [Array.getElem?_replicate],⟨fun _ _ h=>h,fun _ _ h=>h⟩,fun i x fl nf hi=>⟨fun h=>by simp [Array.getElem?_replicate]at h,fun _ hob=>?_,fun _ h=>by simp [Array.getElem?_replicate]at h⟩⟩
  have h1:=hd2 _ ((QtG hi).2 hob)
  cases h:look base.hp x.d with
  | none=>rfl
  | some ob=>rw [Qp7 h]at h1;cases h1
 intro listed σ hs hall ⟨j,hj,hmu,hsub,hadd⟩
 have hjt:j=(QV its).length:=by
  rcases Qe1 j (QV its).length with h | h
  ·obtain⟨p,M,hp,hpj⟩:=Qv8 (its:=its) h
   have:=(hmu p M hp).1 (hall p (by have:=(Q2.1 hp).1;omega))
   omega
  omega
 subst hjt
 rw [Qht]at hsub
 refine k σ hsub fun i x fl nf hi=>?_
 have:=(hadd i x fl nf hi).1 (hall i (by have:=(Q2.1 hi).1;omega))
 rwa [Qht]at this
end
inductive MD where
 | s
 | st (r:List V) (rs:List (List V))
 | app (rs:List (List V)) (m:Nat)
 | any (M:Mut)
 | cm (en:Ent) (M N:List (Nat×Nat)) (dead:List Nat) (ms:List Qfq) (outs:List (Nat×Ob)) (r:V) (same:List Nat)
inductive Dw where
 | a (h:Qde) (sv:Option (List (Option Nat)×V)) (fl:Bool) (nf:Bool:=false)
 | m (md:MD)
def QDU (P:Program)(T:Tab)(f:Operand->Option V)(hp:Nat->Option Ob)(c:Call):Ent->Option (Nat×List V×Prop)
 | .fn=>match c.callee with
  | .value (.func g)=>bif Qab T.en g then match evs f c.args.toList with
   | some vs=>some (g,vs,True)
   | none=>none
   else none
  | _=>none
 | .clo=>match c.callee with
  | .value x=>match f x with
   | some (.clo (.func g) fs cs)=>bif Qab T.en g then match evs f c.args.toList with
    | some vs=>some (g,fs++(vs++cs),True)
    | none=>none
    else none
   | _=>none
  | _=>none
 | .me g=>match c.callee with
  | .invoke x name=>match f x with
   | some (.ifc t u)=>bif Qab T.en g then match evs f c.args.toList with
    | some vs=>some (g,u::vs,(Qm2 P t name=some (g,true)/\QAp P t=true)\/(Qm2 P t name=some (g,false)/\Qu2 P t=true))
    | none=>none
    else none
   | _=>none
  | _=>none
 | .mv g e=>match c.callee with
  | .invoke x name=>match f x with
   | some (.ifc t (.loc b 0 off))=>match hp b with
    | some (.var cs)=>match cs[off]? with
     | some r=>bif Qab T.en g then match evs f c.args.toList with
      | some vs=>some (g,r::vs,Qm2 P t name=some (g,false)/\QxV P t e=true/\Qhe P e=some false)
      | none=>none
      else none
     | none=>none
    | _=>none
   | _=>none
  | _=>none
theorem QB4 {P:Program}{C:Ctx}{T:Tab}{f:Operand->Option V}{hp:Nat->Option Ob}{o:Oper}{c:Call}{en:Ent}{g:Nat}{vs:List V}{ψ:Prop}{σ:St}(ok:Qd0 P T)(ho:o.op=.call c)(e:QDU P T f hp c en=some (g,vs,ψ))(hφ:ψ)
  (h1:∀x u,f x=some u->σ.opd x=some u) (h2:∀b u,hp b=some u->look σ.hp b=some u):Qbx P C o σ g vs:=by
 obtain⟨ce,ags,ts⟩:=c
 unfold QDU at e
 split at e
 ·split at e
  ·rename_i f' hc
   dsimp only at hc;subst hc
   replace e:=Qag e;obtain⟨e1,e⟩:=e
   split at e
   ·rename_i vs' hv;cases e;exact Qbx.fn ho (ok.en e1) (Qf1 h1 hv)
   cases e
  cases e
 ·split at e
  ·rename_i x hc
   dsimp only at hc;subst hc
   split at e
   ·rename_i f' fs cs hx
    replace e:=Qag e;obtain⟨e1,e⟩:=e
    split at e
    ·rename_i vs' hv;cases e;exact Qbx.clo ho (h1 _ _ hx) (ok.en e1) (Qf1 h1 hv)
    cases e
   cases e
  cases e
 ·split at e
  ·rename_i x name hc
   dsimp only at hc;subst hc
   split at e
   ·rename_i t u hx
    replace e:=Qag e;obtain⟨e1,e⟩:=e
    split at e
    ·rename_i vs' hv;cases e;exact Qbx.meth (r:=u) ho (h1 _ _ hx) hφ (ok.en e1) (Qf1 h1 hv)
    cases e
   cases e
  cases e
 split at e
 ·rename_i x name hc
  dsimp only at hc;subst hc
  split at e
  ·rename_i t b off hx
   split at e
   ·rename_i cs hb
    split at e
    ·rename_i r hr0
     replace e:=Qag e;obtain⟨e1,e⟩:=e
     split at e
     ·rename_i vs' hv;cases e;exact Qbx.methV ho (h1 _ _ hx) hφ.1 hφ.2.1 hφ.2.2 (h2 _ _ hb) hr0 (ok.en e1) (Qf1 h1 hv)
     cases e
    cases e
   cases e
  cases e
 cases e
theorem QCR {bk:Nat->Option Nat}{hp hp':Nat->Option Ob}(h:∀b u,hp b=some u->hp' b=some u):∀{M:List (Nat×Nat)} {l:List (Nat×Ob)},Qjl bk hp M=some l->Qjl bk hp' M=some l:=by
 intro M
 induction M with
 | nil=>intro l e;exact e
 | cons p M ih=>
  obtain⟨d,s⟩:=p
  intro l e
  rw [Qjl]at e ⊢
  split at e
  ·rename_i ob hob
   split at e
   ·rename_i ob' hob'
    split at e
    ·rename_i l' hl
     simp only [h _ _ hob,hob',ih hl];exact e
    cases e
   cases e
  cases e
theorem QB5 {σ:St}{M N:List (Nat×Nat)}{dead:List Nat}{outs:List (Nat×Ob)}(h:Qec ⟨[],N.map fun p=>(p.1,Ob.itr0)⟩ M N dead outs=true):Qec σ M N dead outs=true:=by
 simp only [Qec,QA,Qad]at h ⊢
 obtain⟨⟨h1,h2⟩,h3⟩:=h
 refine⟨⟨h1,h2⟩,fun p hp=>⟨⟨?_,(h3 p hp).1.2⟩,(h3 p hp).2⟩⟩
 have hn:∀{l:List (Nat×Nat)},p∈l->(look (l.map fun p=>(p.1,Ob.itr0)) p.1).isNone=false:=by
  intro l hp
  induction l with
  | nil=>cases hp
  | cons q l ih=>
   show(look ((q.1,Ob.itr0)::l.map fun p=>(p.1,Ob.itr0)) p.1).isNone=false
   by_cases e:q.1=p.1
   ·rw [e,Qz];rfl
   rw [Qu _ _ e]
   refine ih ?_
   rcases Qbm.1 hp with h | h
   ·exact absurd (congrArg Prod.fst h).symm e
   exact h
 have h4:=(h3 p hp).1.1
 rw [hn hp,Bool.or_false]at h4
 rw [h4];rfl
theorem QtH {σ:St}(dead:List Nat):∀(l:List (Nat×Ob)),(σ.killL dead).sets l=σ.after dead l:=by
 intro l
 induction l with
 | nil=>rfl
 | cons p l ih=>rw [St.sets,ih];rfl
def QB6 (hp:Nat->Option Ob)(hsN:List (Nat×Ob)):List Nat->Prop
 | []=>True
 | b::r=>hp b=look hsN b/\QB6 hp hsN r
theorem QCS {hp:Nat->Option Ob}{hsN:List (Nat×Ob)}:∀{l:List Nat},QB6 hp hsN l->∀b,Qab l b=true->hp b=look hsN b:=by
 intro l
 induction l with
 | nil=>intro _ b h;cases h
 | cons a l ih=>
  intro h b hb
  rw [Qab]at hb
  cases e:Nat.beq a b with
  | true=>rw [<-QaJ e];exact h.1
  | false=>rw [e]at hb;exact ih h.2 b (by simpa using hb)
theorem QBh {same:List Nat}:∀{l:List (Nat×Ob)} {b:Nat},look (l.filter fun p=>!(Qab same p.1)) b=if Qab same b=true then none else look l b:=by
 intro l
 induction l with
 | nil=>intro b;simp [look]
 | cons p l ih=>
  intro b
  rw [Qmb]
  by_cases e:p.1=b
  ·subst e
   cases h:Qab same p.1 with
   | true=>
    simp only [Qfe,Bool.false_eq_true,if_false]
    rw [ih,h];simp
   | false=>
    simp only [Bool.not_false,if_true,Bool.false_eq_true,if_false]
    obtain⟨k,v⟩:=p
    rw [Qz,Qz]
  cases h:Qab same p.1 with
  | true=>
   simp only [Qfe,Bool.false_eq_true,if_false]
   rw [ih,Qu (k:=p.1) p.2 l e]
  | false=>
   simp only [Bool.not_false,if_true]
   rw [Qu (k:=p.1) p.2 _ e,ih,Qu (k:=p.1) p.2 l e]
theorem R.congrHp {C:Ctx}{σ σ':St}(hf:σ'.fr=σ.fr)(hh:∀o,look σ'.hp o=look σ.hp o){a:Act}{w:World}(hR:R C σ a w):R C σ' a w:=by
 obtain⟨φ,h⟩:=hR
 exact⟨φ,h.os,h.tape,h.output,h.size,h.kept,h.inj,fun o B hB=>by rw [hh];exact h.dom o B hB,h.lt,h.new,⟨h.stay.1,fun o ob B h1 h2 h3=>h.stay.2 o ob B h1 (by rw [<-hh];exact h2) h3⟩,h.tmps,h.defers,fun t v hv=>h.frame t v (by rw [<-hf];exact hv),fun o ob hob=>h.heap o ob (by rw [<-hh];exact hob)⟩
def mu1 (P:Program)(C:Ctx)(T:Tab)(n:Nat)(md:MD)(o:Oper)(f:Operand->Option V)(hp:Nat->Option Ob):Option (Mut×Option Prop):=match md with
 | .cm en M N dead ms outs r same=>match o.dst with
  | some d=>match o.op with
   | .call c=>bif Qec ⟨[],N.map fun p=>(p.1,Ob.itr0)⟩ M N dead outs&&QhR (M.map Prod.fst)&&QhR (N.map Prod.fst)&&Nat.ble (d+1) n then match QDU P T f hp c en with
    | some (g,vs,ψ)=>match Qm5 (bkM M) ms vs with
     | some us=>match Qjl (bkM M) hp M with
      | some hsC=>match Qjl (bkM N) (look outs) N with
       | some hsN=>match trV (bkM N) r with
        | some r'=>match same with
         | []=>some (⟨dead,hsN,some (d,r')⟩,some (ψ/\Qc P g us hsC (Gives r outs)))
         | _=>match dead with
          | []=>some (⟨[],hsN.filter (fun p=>!(Qab same p.1)),some (d,r')⟩,some ((ψ/\Qc P g us hsC (Gives r outs))/\QB6 hp hsN same))
          | _=>none
        | none=>none
       | none=>none
      | none=>none
     | none=>none
    | none=>none
    else none
   | _=>none
  | none=>none
 | .any M=>some (M,some (∀σ:St,(∀x u,f x=some u->σ.opd x=some u)->(∀b u,hp b=some u->look σ.hp b=some u)->Stp P C o σ (M.run σ)))
 | .s=>match o.dst with
  | some d=>match o.op with
   | .assign x=>match f x with
    | some v=>bif Nat.ble (d+1) n then some (⟨[],[],some (d,v)⟩,none)else none
    | none=>none
   | .move x=>match f x with
    | some v=>bif Nat.ble (d+1) n then some (⟨[],[],some (d,v)⟩,none)else none
    | none=>none
   | _=>none
  | none=>match o.op with
   | .store Tx x y=>match f x with
    | some (.loc b i off)=>match f y with
     | some v=>match hp b with
      | some (.var cs)=>match i with
       | 0=>match look T.sz Tx with
        | some k=>bif v.isV&&Nat.beq v.cells.length k&&v.cells.all V.one&&Nat.ble (off+k) cs.length then some (⟨[],[(b,.var (QcK cs off v.cells))],none⟩,none)else none
        | none=>none
       | _=>none
      | _=>none
     | none=>none
    | _=>none
   | _=>none
 | .st r rs'=>match o.dst with
  | some _=>none
  | none=>match o.op with
   | .store Tx x y=>match f x with
    | some (.loc b i off)=>match f y with
     | some v=>match hp b with
      | some (.arr z rs)=>match look T.sz Tx with
       | some k=>bif v.isV&&Nat.beq v.cells.length k&&v.cells.all V.one&&v.cells.all V.dat&&Nat.ble (off+k) z then some (⟨[],[(b,.arr z rs')],none⟩,some (rs[i]? = some r/\rs.set i (QcK r off v.cells)=rs'))else none
       | none=>none
      | _=>none
     | none=>none
    | _=>none
   | _=>none
 | .app rs' m=>match o.dst with
  | some d=>match o.op with
   | .call c=>match c.callee with
    | .builtin .append=>match c.args.toList with
     | [x,y]=>match c.argTypes.toList with
      | [Tx,Ty]=>match f x with
       | some (.own b k)=>match f y with
        | some v=>match hp b with
         | some (.arr z rs)=>match look T.es Tx with
          | some (e,z',by_)=>match look T.zv e with
           | some zs=>bif (look T.es Ty).isSome&&Nat.ble (d+1) n&&!(Nat.ble 617 b)&&Nat.beq z z'&&Nat.beq zs.length z&&!(Nat.beq z 0)&&Nat.ble by_ 32768 then match v with
            | .sl z'' us=>bif Nat.beq z z'' then some (⟨[b],[(b,.arr z rs')],some (d,.own b m)⟩,some (rs.length=k/\decide (k+us.length<=4294967296)=true/\rs++us=rs'/\k+us.length=m))else none
            | _=>none
            else none
           | none=>none
          | none=>none
         | _=>none
        | none=>none
       | _=>none
      | _=>none
     | _=>none
    | _=>none
   | _=>none
  | none=>none
def Qoi (obj:Bool)(o:Oper)(t:Nat)(fo:Bool)(ms:List Mut):List (It×Nat)->Nat->Option DF
 | (.add x fl _,j)::r,i+1=>bif Nat.beq x.d t&&QlD o i&&(bif fo then fl else bif obj then Qsk x fl (ms.drop j)else alv x fl (ms.drop j))then some x else Qoi obj o t fo ms r i
 | (.tn _,_)::r,i+1=>Qoi obj o t fo ms r i
 | _,_=>none
def Qqe (B:St)(fo:Bool)(ms:List Mut)(ri:List (It×Nat))(i:Nat)(o:Oper):Operand->Option V
 | .tmp t=>match look B.fr t with
  | some v=>some v
  | none=>match Qoi false o t fo ms ri i with
   | some x=>some x.v
   | none=>none
 | x=>B.opd x
def QtI (B:St)(fo:Bool)(ms:List Mut)(ri:List (It×Nat))(i:Nat)(o:Oper)(b:Nat):Option Ob:=match look B.hp b with
 | some ob=>some ob
 | none=>match Qoi true o b fo ms ri i with
  | some x=>x.ob
  | none=>none
structure Dr where
 ri:List (It×Nat)
 ms:List Mut
 B:St
 φ:Prop
def Qhf (P:Program)(C:Ctx)(T:Tab)(n:Nat)(ops:Array Oper)(S:St):List Dw->List Oper->Nat->List (It×Nat)->List Mut->St->Prop->Option Dr
 | [],_,_,ri,ms,B,φ=>some ⟨ri,ms,B,φ⟩
 | .a h sv fl nf::ds,o::l,i,ri,ms,B,φ=>match QfE ops o (fun t=>Qqe (bif fl&&!nf then S else B) (fl&&!nf) ms ri i o (.tmp t))with
  | some true=>match o.dst with
   | some d=>bif Nat.ble (d+1) n then match ev1 P C T h o d (Qqe (bif fl&&!nf then S else B) (fl&&!nf) ms ri i o) (QtI (bif fl&&!nf then S else B) (fl&&!nf) ms ri i o)with
    | some ⟨v,ob,q⟩=>match sv with
     | none=>Qhf P C T n ops S ds l (i+1) ((.add ⟨d,v,ob⟩ fl nf,ms.length)::ri) ms B (Qp9 φ q)
     | some (mm,u)=>Qhf P C T n ops S ds l (i+1) ((.add ⟨d,u,ob⟩ fl nf,ms.length)::ri) ms B (Qp9 φ q/\v.denil mm=u)
    | none=>none
    else none
   | none=>none
  | some false=>match o.dst with
   | some d=>bif Nat.ble (d+1) n then Qhf P C T n ops S ds l (i+1) ((.add ⟨d,.lit undef,none⟩ fl nf,ms.length)::ri) ms B φ else none
   | none=>none
  | none=>none
 | .m md::ds,o::l,i,ri,ms,B,φ=>match QfE ops o (fun t=>Qqe B false ms ri i o (.tmp t))with
  | some true=>match mu1 P C T n md o (Qqe B false ms ri i o) (QtI B false ms ri i o)with
   | some (M,q)=>Qhf P C T n ops S ds l (i+1) ((.tn M,ms.length)::ri) (ms++[M]) (M.run B) (Qp9 φ q)
   | none=>none
  | _=>none
 | _::_,[],_,_,_,_,_=>none
def QaK (ri:List (It×Nat)):List It:=(ri.map Prod.fst).reverse
section
variable {P:Program}{C:Ctx}{T:Tab}{Q:Exit->St->Prop}{n:Nat}{ops:Array Oper}{base S:St}{ks:List Fr}
theorem QzG {md:MD}{o:Oper}{f:Operand->Option V}{hp:Nat->Option Ob}{M:Mut}{q:Option Prop}{σ:St}(ok:Qd0 P T)(hN:Qdy P C n)(e:mu1 P C T n md o f hp=some (M,q))(hq:match q with | none=>True | some p=>p)
  (h1:∀x u,f x=some u->σ.opd x=some u) (h2:∀b u,hp b=some u->look σ.hp b=some u):Stp P C o σ (M.run σ):=by
 have hn:=hN.n
 have hpg:=hN.g
 unfold mu1 at e
 cases md with
 | any M0=>cases e;exact hq σ h1 h2
 | cm en M0 N dead ms outs r same=>
  dsimp only at e
  split at e
  ·rename_i d hd
   split at e
   ·rename_i c ho
    replace e:=Qag e;obtain⟨e1,e⟩:=e
    simp only [QA]at e1
    obtain⟨⟨⟨g1,g2⟩,g3⟩,g4⟩:=e1
    rw [<-hn]at g4
    have g1:=QB5 (σ:=σ) g1
    have g2:=Qc5.1 g2
    have g3:=Qc5.1 g3
    have inj:Qiq M0=true/\Qiq N=true:=by
     simp only [Qec,QA]at g1
     exact⟨g1.1.1.1,g1.1.1.2⟩
    have mM:∀a b,bkM M0 a=some b->look M0 b=some a:=fun a b h=>Qb1 inj.1 (QgI h) g2
    have mN:∀a b,bkM N a=some b->look N b=some a:=fun a b h=>Qb1 inj.2 (QgI h) g3
    split at e
    ·rename_i g vs ψ hent
     split at e
     ·rename_i us hus
      split at e
      ·rename_i hsC hC
       split at e
       ·rename_i hsN hN
        split at e
        ·rename_i r' hr
         have call:ψ/\Qc P g us hsC (Gives r outs)->Stp P C o σ ((σ.after dead hsN).put d r'):=fun hq=>
          Stp.callM (g:=false) (QB4 (C:=C) ok ho hent hq.1 h1 h2) hd g4 hpg g1 g2 (Qjd mM hus) (Qdz mM (QCR h2 hC)) hq.2 (Qdz mN hN) (QmQ mN hr)
         split at e
         ·cases e
          unfold Mut.run
          dsimp only
          rw [QtH];exact call hq
         split at e
         ·cases e
          obtain⟨hq1,hq2⟩:=hq
          intro a w hR K Q hK
          refine call hq1 a w hR K Q fun a' w' hR'=>hK a' w' (R.congrHp ?_ (fun o=>?_) hR')
          ·unfold Mut.run;dsimp only;rw [QtH];rfl
          unfold Mut.run;dsimp only;rw [QtH]
          show look (_++σ.hp) o=look (_++σ.hp) o
          rw [QfM,QfM,QBh]
          by_cases hm:Qab same o=true
          ·rw [if_pos hm]
           have:=QCS hq2 o hm
           cases hl:look hsN o with
           | none=>rfl
           | some ob=>rw [hl]at this;exact h2 o ob this
          rw [if_neg hm]
         cases e
        cases e
       cases e
      cases e
     cases e
    cases e
   cases e
  cases e
 | s=>
  dsimp only at e
  split at e
  ·rename_i d hd
   split at e
   ·rename_i x ho
    split at e
    ·rename_i v hv
     replace e:=Qag e;obtain⟨e1,e⟩:=e
     rw [<-hn]at e1
     cases e;exact Stp.assign ho hd e1 (h1 _ _ hv)
    cases e
   ·rename_i x ho
    split at e
    ·rename_i v hv
     replace e:=Qag e;obtain⟨e1,e⟩:=e
     rw [<-hn]at e1
     cases e;exact Stp.move ho hd e1 (h1 _ _ hv)
    cases e
   cases e
  rename_i hd
  split at e
  ·rename_i Tx x y ho
   split at e
   ·rename_i b i off hx
    split at e
    ·rename_i v hv
     split at e
     ·rename_i cs hb
      split at e
      ·split at e
       ·rename_i k hk
        replace e:=Qag e;obtain⟨e2,e⟩:=e
        cases e
        simp only [QA]at e2
        obtain⟨⟨⟨a1,a2⟩,a3⟩,a4⟩:=e2
        exact Stp.storeL ho hd (h1 _ _ hx) (h2 _ _ hb) (h1 _ _ hv) (V.isV_or a1) (ok.sz hk) (QaJ a2) a3 a4 rfl
       cases e
      cases e
     cases e
    cases e
   cases e
  cases e
 | st r rs'=>
  dsimp only at e
  split at e
  ·cases e
  rename_i hd
  split at e
  ·rename_i Tx x y ho
   split at e
   ·rename_i b i off hx
    split at e
    ·rename_i v hv
     split at e
     ·rename_i z rs hb
      split at e
      ·rename_i k hk
       replace e:=Qag e;obtain⟨e2,e⟩:=e
       cases e
       simp only [QA]at e2
       obtain⟨⟨⟨⟨a1,a2⟩,a3⟩,a4⟩,a5⟩:=e2
       exact Stp.storeA ho hd (h1 _ _ hx) (h2 _ _ hb) hq.1 (h1 _ _ hv) (V.isV_or a1) (ok.sz hk) (QaJ a2) a3 a4 a5 hq.2
      cases e
     cases e
    cases e
   cases e
  cases e
 | app rs' m=>
  dsimp only at e
  split at e
  ·rename_i d hd
   split at e
   ·rename_i c ho
    obtain⟨ce,ags,ts⟩:=c
    split at e
    ·rename_i hce
     dsimp only at hce e;subst hce
     split at e
     ·rename_i x y hxy
      split at e
      ·rename_i Tx Ty hT
       split at e
       ·rename_i b k hx
        split at e
        ·rename_i v hv
         split at e
         ·rename_i z rs hb
          split at e
          ·rename_i et z' by_ hes
           split at e
           ·rename_i zs hz
            replace e:=Qag e;obtain⟨e1,e⟩:=e
            simp only [QA,Qfd]at e1
            obtain⟨⟨⟨⟨⟨⟨a1,a2⟩,a3⟩,a4⟩,a5⟩,a6⟩,a7⟩:=e1
            have a4:=QaJ a4;subst a4
            have a5:=QaJ a5
            have a6:z≠0:=fun h0=>by rw [h0]at a6;cases a6
            rw [<-hn]at a2
            obtain⟨⟨e2,z2,by2⟩,hU⟩:∃q,QaA P Ty=some q:=by
             cases hl:look T.es Ty with
             | none=>rw [hl]at a1;cases a1
             | some q=>exact⟨q,ok.es hl⟩
            have ea:ags=#[x,y]:=by rw [<-QuU (xs:=ags),hxy]
            have et:ts=#[Tx,Ty]:=by rw [<-QuU (xs:=ts),hT]
            subst ea;subst et
            split at e
            ·rename_i z'' us
             replace e:=Qag e;obtain⟨e3,e⟩:=e
             have:=QaJ e3;subst this
             cases e
             obtain⟨h4,h5,h6,h7⟩:=hq
             exact Stp.appS ho hd a2 (h1 _ _ hx) (h2 _ _ hb) a3 h4 (ok.es hes) hU (ok.zv hz) a5 a6 a7 h5 (h1 _ _ hv) h6 h7
            cases e
           cases e
          cases e
         cases e
        cases e
       cases e
      cases e
     cases e
    cases e
   cases e
  cases e
theorem Qvb {obj:Bool}{o:Oper}{t:Nat}{fo:Bool}{ms:List Mut}:∀{ri:List (It×Nat)} {i:Nat} {x:DF},i=ri.length->Qoi obj o t fo ms ri i=some x->
  ∃k fl nf j,ri.reverse[k]? = some (.add x fl nf,j)/\QlD o k=true/\x.d=t/\(bif fo then fl else bif obj then Qsk x fl (ms.drop j)else alv x fl (ms.drop j))=true:=by
 intro ri
 induction ri with
 | nil=>intro i x hi h;subst hi;cases h
 | cons y ri ih=>
  intro i x hi h
  subst hi
  have up:∀{x:DF},(∃k fl nf j,ri.reverse[k]? = some (.add x fl nf,j)/\QlD o k=true/\x.d=t/\(bif fo then fl else bif obj then Qsk x fl (ms.drop j)else alv x fl (ms.drop j))=true)->∃k fl nf j,(y::ri).reverse[k]? = some (.add x fl nf,j)/\QlD o k=true/\x.d=t/\(bif fo then fl else bif obj then Qsk x fl (ms.drop j)else alv x fl (ms.drop j))=true:=by
   rintro x ⟨k,fl,nf,j,h1,h2⟩
   refine⟨k,fl,nf,j,?_,h2⟩
   rw [List.reverse_cons,Qbw (Q2.1 h1).1];exact h1
  obtain⟨it,j⟩:=y
  cases it with
  | tn M=>rw [Qfg,Qoi]at h;exact up (ih rfl h)
  | add z fl nf=>
   rw [Qfg,Qoi]at h
   cases hb:(Nat.beq z.d t&&QlD o ri.length&&(bif fo then fl else bif obj then Qsk z fl (ms.drop j)else alv z fl (ms.drop j)))with
   | true=>
    rw [hb]at h;cases h
    simp only [QA]at hb
    exact⟨ri.length,fl,nf,j,by simp,hb.1.2,QaJ hb.1.1,hb.2⟩
   | false=>rw [hb]at h;exact up (ih rfl h)
theorem QtJ {o:Oper}{f:Nat->Option V}{σ:St}{b:Bool}(hw:QfE ops o f=some b)(hx:∀t u,f t=some u->look σ.fr t=some u):QfE ops o (look σ.fr)=some b:=by
 unfold QfE at hw ⊢
 cases hg:o.guard with
 | none=>simp only [hg]at hw ⊢;exact hw
 | some p=>
  obtain⟨j,t⟩:=p
  simp only [hg]at hw ⊢
  cases hj:ops[j]? with
  | none=>simp only [hj]at hw;cases hw
  | some oj=>
   simp only [hj]at hw ⊢
   cases hd:oj.dst with
   | none=>simp only [hd]at hw;cases hw
   | some d=>
    simp only [hd]at hw ⊢
    cases hf:f d with
    | none=>simp only [hf]at hw;cases hw
    | some v=>
     have:=hx d v hf
     simp only [hf]at hw
     simp only [this]
     exact hw
theorem QbV.want {o:Oper}{σ σ':St}(h:QfE ops o (look σ.fr)=some true)(hs:Stp P C o σ σ'):QbV P C ops o σ σ':=by
 rcases Qou h with⟨hg,_⟩|⟨j,t,d',hg,hj,⟨u,hu,hb⟩|⟨_,hb⟩⟩
 ·exact QbV.run hg hs
 ·exact QbV.runG hg hj hu (by simpa using hb.symm) hs
 cases hb
theorem QbV.unwant {o:Oper}{σ:St}{d:Nat}(h:QfE ops o (look σ.fr)=some false)(hd:o.dst=some d)(hn:Nat.ble (d+1) C.n=true):QbV P C ops o σ (σ.put d (.lit undef)):=by
 rcases Qou h with⟨_,hb⟩|⟨j,t,d',hg,hj,⟨u,hu,hb⟩|⟨hu,_⟩⟩
 ·cases hb
 ·have:u=!t:=by cases u<;>cases t<;>first | rfl | cases hb
  exact QbV.pass hg hj hu this hd hn
 exact QbV.passU hg hj hu hd hn
theorem Qy2 (ok:Qd0 P T)(hN:Qdy P C n){D:Dr}:∀(ds:List Dw) {l:List Oper} {i:Nat} {ri:List (It×Nat)} {ms:List Mut} {B:St} {φ:Prop},Qhf P C T n ops S ds l i ri ms B φ=some D->i=ri.length->l=ops.toList.drop i->ms=QV (QaK ri)->B=bof base ms->
  (∀k it j,ri.reverse[k]? = some (it,j)->j=j0 (QaK ri) k)->D.φ->
  φ/\D.ri.length=i+ds.length/\(∃r,QaK D.ri=QaK ri++r)/\D.ms=QV (QaK D.ri)/\D.B=bof base D.ms/\(∀k it j,D.ri.reverse[k]? = some (it,j)->j=j0 (QaK D.ri) k)/\
   ∀k o it,i<=k->ops[k]? = some o->(QaK D.ri)[k]? = some it->QsC P C ops base S (QaK D.ri) k o it:=by
 have hn:=hN.n
 intro ds
 induction ds with
 | nil=>
  intro l i ri ms B φ h hi hl hms hB hj hφ
  cases h
  refine⟨hφ,by simp [hi],⟨[],by simp⟩,hms,hB,hj,fun k o it hk ho hit=>?_⟩
  have:=(Q2.1 hit).1
  simp [QaK]at this;omega
 | cons d ds ih=>
  intro l i ri ms B φ h hi hl hms hB hj hφ
  cases l with
  | nil=>cases d<;>cases h
  | cons o l=>
   have ho:ops[i]? = some o:=by
    have:=congrArg (fun x=>x[0]?) hl
    simpa using this.symm
   have hl':l=ops.toList.drop (i+1):=by
    have:=congrArg List.tail hl
    simpa using this
   have hlen:(QaK ri).length=i:=by simp [QaK,hi]
   have grow:∀(it:It) (φ0:Prop) (ms':List Mut) (B':St),ms'=QV (QaK ri++[it])->B'=bof base ms'->Qhf P C T n ops S ds l (i+1) ((it,ms.length)::ri) ms' B' φ0=some D->
     (φ0->φ/\∀its:List It,(∃r,its=QaK ri++(it::r))->QsC P C ops base S its i o it)->
     φ/\D.ri.length=i+(ds.length+1)/\(∃r,QaK D.ri=QaK ri++r)/\D.ms=QV (QaK D.ri)/\D.B=bof base D.ms/\(∀k it j,D.ri.reverse[k]? = some (it,j)->j=j0 (QaK D.ri) k)/\
      ∀k o it,i<=k->ops[k]? = some o->(QaK D.ri)[k]? = some it->QsC P C ops base S (QaK D.ri) k o it:=by
    intro it φ0 ms' B' hms' hB' h hstep
    have hio:QaK ((it,ms.length)::ri)=QaK ri++[it]:=by simp [QaK]
    obtain⟨h1,h2,⟨r,h3⟩,h4,h5,h6,h7⟩:=ih h (by simp [hi]) hl' (by rw [hio];exact hms') hB' (fun k it' j hk=>by
     rw [hio]
     rw [List.reverse_cons]at hk
     by_cases hlt:k<ri.length
     ·rw [Qbw (by simpa using hlt)]at hk
      rw [hj k it' j hk];unfold j0
      rw [Qtl (by omega)]
     rw [QcA (by simp;omega)]at hk
     have:k-ri.reverse.length=0:=by
      have:=(Q2.1 hk).1;simpa using this
     rw [this]at hk;simp at hk
     obtain⟨rfl,rfl⟩:=hk
     have hk2:k=ri.length:=by simp at this;omega
     unfold j0
     rw [Qtl (by omega),hms,Qip (by omega)]) hφ
    obtain⟨h8,h9⟩:=hstep h1
    rw [hio,Qgl]at h3
    refine⟨h8,by omega,⟨_,h3⟩,h4,h5,h6,fun k o' it' hk ho' hit=>?_⟩
    rcases Qe1 i k with hlt | hge
    ·exact h7 k o' it' hlt ho' hit
    have:k=i:=by omega
    subst this
    rw [ho]at ho';cases ho'
    have:(QaK D.ri)[k]? = some it:=by rw [h3,QcA (by omega),hlen];simp
    rw [this]at hit;cases hit
    exact h9 _ ⟨r,h3⟩
   have place:∀{its:List It} {it:It} {r:List It},its=QaK ri++(it::r)->(QV its).take (j0 its i)=ms/\∀k it' j,ri.reverse[k]? = some (it',j)->its[k]? = some it'/\j=j0 its k:=by
    intro its it r hits
    have h1:its.take i=QaK ri:=by rw [hits,Qtl (by omega),Qip (by omega)]
    refine⟨?_,fun k it' j hk=>⟨?_,?_⟩⟩
    ·unfold j0;rw [h1,hits,QgJ,<-hms];simp
    ·have hk2:(QaK ri)[k]? = some it':=by simp only [QaK,<-List.map_reverse,Qa0,hk,Qgn]
     rw [hits,Qbw (Q2.1 hk2).1];exact hk2
    have hkl:=(Q2.1 hk).1
    rw [hj k it' j hk];unfold j0
    rw [hits,Qtl (by simp at hkl;omega)]
   have envB:∀{its:List It} {it:It} {r:List It} {σ:St},its=QaK ri++(it::r)->Sub σ B->(∀k y fl nf,its[k]? = some (.add y fl nf)->QlD o k=true->Qm7 σ y fl (ms.drop (j0 its k)))->
     (∀x u,Qqe B false ms ri i o x=some u->σ.opd x=some u)/\∀b u,QtI B false ms ri i o b=some u->look σ.hp b=some u:=by
    intro its it r σ hits hsub hdep
    have dep:∀{t:Nat} {x:DF},Qoi false o t false ms ri i=some x->look σ.fr x.d=some x.v/\x.d=t:=fun hf=>by
     obtain⟨k,fl,nf,j,g1,g2,g3,g4⟩:=Qvb hi hf
     obtain⟨g5,g6⟩:=(place hits).2 k _ j g1
     exact⟨(hdep k _ fl nf g5 g2).1 (by rw [<-g6];exact g4),g3⟩
    have depO:∀{t:Nat} {x:DF},Qoi true o t false ms ri i=some x->(∀ob,x.ob=some ob->look σ.hp x.d=some ob)/\x.d=t:=fun hf=>by
     obtain⟨k,fl,nf,j,g1,g2,g3,g4⟩:=Qvb hi hf
     obtain⟨g5,g6⟩:=(place hits).2 k _ j g1
     exact⟨(hdep k _ fl nf g5 g2).2 (by rw [<-g6];exact g4),g3⟩
    refine⟨fun x u hx=>?_,fun b u hx=>?_⟩
    ·cases x with
     | tmp t=>
      simp only [Qqe]at hx
      split at hx
      ·rename_i v hv;cases hx;exact hsub.1 _ _ hv
      split at hx
      ·rename_i y hy;cases hx;obtain⟨g1,g2⟩:=dep hy;subst g2;exact g1
      cases hx
     | const v=>exact hx
     | global g=>exact hx
     | func f=>exact hx
    simp only [QtI]at hx
    split at hx
    ·rename_i v hv;cases hx;exact hsub.2 _ _ hv
    split at hx
    ·rename_i y hy;obtain⟨g1,g2⟩:=depO hy;subst g2;exact g1 _ hx
    cases hx
   have envS:∀{its:List It} {it:It} {r:List It} {σ:St},its=QaK ri++(it::r)->Sub σ S->(∀k y nf,its[k]? = some (.add y true nf)->QlD o k=true->Qtv σ y)->
     (∀x u,Qqe S true ms ri i o x=some u->σ.opd x=some u)/\∀b u,QtI S true ms ri i o b=some u->look σ.hp b=some u:=by
    intro its it r σ hits hsub hdep
    have dep:∀{b:Bool} {t:Nat} {x:DF},Qoi b o t true ms ri i=some x->Qtv σ x/\x.d=t:=fun hf=>by
     obtain⟨k,fl,nf,j,g1,g2,g3,g4⟩:=Qvb hi hf
     obtain⟨g5,g6⟩:=(place hits).2 k _ j g1
     have:fl=true:=g4
     subst this
     exact⟨hdep k _ nf g5 g2,g3⟩
    refine⟨fun x u hx=>?_,fun b u hx=>?_⟩
    ·cases x with
     | tmp t=>
      simp only [Qqe]at hx
      split at hx
      ·rename_i v hv;cases hx;exact hsub.1 _ _ hv
      split at hx
      ·rename_i y hy;cases hx;obtain⟨g1,g2⟩:=dep hy;subst g2;exact g1.1
      cases hx
     | const v=>exact hx
     | global g=>exact hx
     | func f=>exact hx
    simp only [QtI]at hx
    split at hx
    ·rename_i v hv;cases hx;exact hsub.2 _ _ hv
    split at hx
    ·rename_i y hy;obtain⟨g1,g2⟩:=dep hy;subst g2;exact g1.2 _ hx
    cases hx
   have addOK:∀{x:DF} {fl nf:Bool} {φ0:Prop},Qhf P C T n ops S ds l (i+1) ((.add x fl nf,ms.length)::ri) ms B φ0=some D->
     (φ0->φ/\∀σ,(∀y u,Qqe (bif fl&&!nf then S else B) (fl&&!nf) ms ri i o y=some u->σ.opd y=some u)->(∀b u,QtI (bif fl&&!nf then S else B) (fl&&!nf) ms ri i o b=some u->look σ.hp b=some u)->(x.ob.isSome=true->look σ.hp x.d=none)->QbV P C ops o σ (σ.addF x))->
     φ/\D.ri.length=i+(ds.length+1)/\(∃r,QaK D.ri=QaK ri++r)/\D.ms=QV (QaK D.ri)/\D.B=bof base D.ms/\(∀k it j,D.ri.reverse[k]? = some (it,j)->j=j0 (QaK D.ri) k)/\
      ∀k o it,i<=k->ops[k]? = some o->(QaK D.ri)[k]? = some it->QsC P C ops base S (QaK D.ri) k o it:=by
    intro x fl nf φ0 h hs
    refine grow (.add x fl nf) φ0 ms B (by rw [QgJ];simp [QV,hms]) hB h fun h0=>?_
    obtain⟨g1,g2⟩:=hs h0
    refine⟨g1,fun its ⟨r,hits⟩=>?_⟩
    dsimp only [QsC]
    generalize (fl&&!nf)=ff at g2 ⊢
    cases ff with
    | true=>exact fun σ hsub hdep hf=>let ⟨a,b⟩:=envS hits hsub hdep;g2 σ a b hf
    | false=>
     intro σ hsub hdep hf
     rw [(place hits).1,<-hB]at hsub
     rw [(place hits).1]at hdep
     obtain⟨a,b⟩:=envB hits hsub hdep
     exact g2 σ a b hf
   cases d with
   | a h0 sv fl nf=>
    rw [Qhf]at h
    split at h
    ·rename_i hw
     split at h
     ·rename_i dd hd
      replace h:=Qag h;obtain⟨e1,h⟩:=h
      rw [<-hn]at e1
      have stp:∀{v:V} {ob:Option Ob} {q:Option Prop} {σ:St},ev1 P C T h0 o dd (Qqe (bif fl&&!nf then S else B) (fl&&!nf) ms ri i o) (QtI (bif fl&&!nf then S else B) (fl&&!nf) ms ri i o)=some ⟨v,ob,q⟩->Rs.holds ⟨v,ob,q⟩->
        (∀x u,Qqe (bif fl&&!nf then S else B) (fl&&!nf) ms ri i o x=some u->σ.opd x=some u)->(∀b u,QtI (bif fl&&!nf then S else B) (fl&&!nf) ms ri i o b=some u->look σ.hp b=some u)->(ob.isSome=true->look σ.hp dd=none)->QbV P C ops o σ (σ.addF ⟨dd,v,ob⟩):=
       fun he hq hx hh hf=>QbV.want (QtJ hw fun t u ht=>hx (.tmp t) u ht) (Qu5 ok hd e1 hN.g hx hh he hq hf)
      split at h
      ·rename_i v ob q he
       split at h
       ·exact addOK h fun h1=>let ⟨a,b⟩:=Qqa h1;⟨a,fun σ hx hh hf=>stp he b hx hh hf⟩
       refine addOK h fun h1=>?_
       obtain⟨h1,h2⟩:=h1
       subst h2
       obtain⟨a,b⟩:=Qqa h1
       exact⟨a,fun σ hx hh hf=>(stp he b hx hh hf).denil⟩
      cases h
     cases h
    ·rename_i hw
     split at h
     ·rename_i dd hd
      replace h:=Qag h;obtain⟨e1,h⟩:=h
      rw [<-hn]at e1
      exact addOK h fun h1=>⟨h1,fun σ hx hh hf=>QbV.unwant (QtJ hw fun t u ht=>hx (.tmp t) u ht) hd e1⟩
     cases h
    cases h
   | m md=>
    rw [Qhf]at h
    split at h
    ·rename_i hw
     split at h
     ·rename_i M q he
      refine grow (.tn M) (Qp9 φ q) (ms++[M]) (M.run B) (by rw [QgJ];simp [QV,hms]) (by rw [Qx0,<-hB];rfl) h fun h1=>?_
      obtain⟨a,b⟩:=Qqa (v:=.J) (ob:=none) h1
      refine⟨a,fun its ⟨r,hits⟩ σ hsub hdep=>?_⟩
      rw [(place hits).1,<-hB]at hsub
      rw [(place hits).1]at hdep
      obtain⟨hx,hh⟩:=envB hits hsub hdep
      refine QbV.want (QtJ hw fun t u ht=>hx (.tmp t) u ht) (QzG ok hN he ?_ hx hh)
      cases q with
      | none=>trivial
      | some p=>exact b
     cases h
    cases h
def Qm8 (ms:List Mut):List (It×Nat)->List (Nat×V)
 | []=>[]
 | (.add x fl _,j)::r=>bif alv x fl (ms.drop j)then(x.d,x.v)::Qm8 ms r else Qm8 ms r
 | (.tn _,_)::r=>Qm8 ms r
def QlR (ms:List Mut):List (It×Nat)->List (Nat×Ob)
 | []=>[]
 | (.add x fl _,j)::r=>bif Qsk x fl (ms.drop j)then(match x.ob with | some ob=>(x.d,ob)::QlR ms r | none=>QlR ms r)else QlR ms r
 | (.tn _,_)::r=>QlR ms r
def okV (ops:Array Oper)(base S:St)(D:Dr):Bool:=QyU ops&&QDQ ops (QaK D.ri)&&QAD base (QaK D.ri)&&Qy0 ops D.ms (QaK D.ri)&&Qy1 ops (QaK D.ri) D.ms S&&QB0 ops (QaK D.ri)
theorem QtK {α:Type}{l:List (Nat×α)}:∀{ts:List Nat} {r:List (Nat×α)},Qir l ts=some r->∀p∈r,look l p.1=some p.2:=by
 intro ts
 induction ts with
 | nil=>intro r h p hp;cases h;cases hp
 | cons t ts ih=>
  intro r h p hp
  rw [Qir]at h
  split at h
  ·rename_i v hv
   split at h
   ·rename_i r' hr
    cases h
    rcases Qbm.1 hp with rfl | hp
    ·exact hv
    exact ih hr p hp
   cases h
  cases h
theorem QDV {fr:List (Nat×V)}:∀{l:List (Nat×V)},(∀p∈l,look fr p.1=some p.2)->QjB fr l:=by
 intro l
 induction l with
 | nil=>intro _;trivial
 | cons p l ih=>intro h;exact⟨h p QbE,ih fun q hq=>h q (Qca _ hq)⟩
theorem QDW {fr:List (Nat×Ob)}:∀{l:List (Nat×Ob)},(∀p∈l,look fr p.1=some p.2)->Qhx fr l:=by
 intro l
 induction l with
 | nil=>intro _;trivial
 | cons p l ih=>intro h;exact⟨h p QbE,ih fun q hq=>h q (Qca _ hq)⟩
theorem AK.draw2 {id:Nat}(ok:Qd0 P T)(hN:Qdy P C n)(hmix:P.follows .mixedOrders=true)(ds:List Dw)(sts sos ts os:List Nat){sf:List (Nat×V)}{sh:List (Nat×Ob)}{fr:List (Nat×V)}{hp:List (Nat×Ob)}{ri:List (It×Nat)}{ms:List Mut}{B:St}{φ:Prop}
  (hS1:Qir base.fr sts=some sf) (hS2:Qir base.hp sos=some sh)
  (e:Qhf P C T n ops ⟨sf,sh⟩ ds ops.toList 0 [] [] base True=some ⟨ri,ms,B,φ⟩) (hφ:φ) (hl:ds.length=ops.size) (hk:okV ops base ⟨sf,sh⟩ ⟨ri,ms,B,φ⟩=true)
  (hf1:Qir (Qm8 ms ri++B.fr) ts=some fr) (hf2:Qir (QlR ms ri++B.hp) os=some hp) (hc:St.closed ⟨fr,hp⟩=true) (k:AK P C Q (.x .normal) ks ⟨fr,hp⟩):AK P C Q (.c (.region id ops true)) ks base:=by
 have hn:=hN.n
 obtain⟨D,hD⟩:∃D:Dr,D=⟨ri,ms,B,φ⟩:=⟨_,rfl⟩
 rw [<-hD]at e hk
 have hφ:D.φ:=by rw [hD];exact hφ
 have hf1:Qir (Qm8 D.ms D.ri++D.B.fr) ts=some fr:=by rw [hD];exact hf1
 have hf2:Qir (QlR D.ms D.ri++D.B.hp) os=some hp:=by rw [hD];exact hf2
 clear hD
 simp only [okV,QA]at hk
 obtain⟨⟨⟨⟨⟨k1,k2⟩,k3⟩,k4⟩,k5⟩,k6⟩:=hk
 obtain⟨_,h2,_,h4,h5,h6,h7⟩:=Qy2 (base:=base) ok hN ds e rfl rfl rfl rfl (fun k it j h=>by simp at h) hφ
 have hlen:(QaK D.ri).length=ops.size:=by simp [QaK];omega
 rw [h4]at k4 k5
 have hS:Sub base ⟨sf,sh⟩:=⟨fun t v h=>by
  have:=QtK hS1 (t,v) (Qbj h);exact this,fun p ob h=>by have:=QtK hS2 (p,ob) (Qbj h);exact this⟩
 refine AK.drawV hmix hlen k1 k2 k3 k6 k4 k5 hS (fun i o it ho hit=>h7 i o it (Nat.zero_le _) ho hit) fun σ hsub hadd=>?_
 rw [<-h4,<-h5]at hsub
 have hadd':∀x fl nf j,(It.add x fl nf,j)∈D.ri->Qm7 σ x fl (D.ms.drop j):=by
  intro x fl nf j hm
  obtain⟨i,hi⟩:=List.getElem?_of_mem (List.mem_reverse.2 hm)
  have hj:=h6 i _ j hi
  rw [hj,h4]
  refine hadd i x fl nf ?_
  simp only [QaK,<-List.map_reverse,Qa0,hi,Qgn]
 have frOK:∀{ri:List (It×Nat)},(∀q∈ri,q∈D.ri)->∀{t:Nat} {v:V},look (Qm8 D.ms ri) t=some v->look σ.fr t=some v:=by
  intro ri
  induction ri with
  | nil=>intro _ t v h;cases h
  | cons y ri ih=>
   intro hm t v h
   have hm':=fun q hq=>hm q (Qca _ hq)
   obtain⟨it,j⟩:=y
   cases it with
   | tn M=>exact ih hm' h
   | add x fl nf=>
    rw [Qm8]at h
    cases hal:alv x fl (D.ms.drop j)with
    | false=>rw [hal]at h;exact ih hm' h
    | true=>
     rw [hal]at h
     have h:look ((x.d,x.v)::Qm8 D.ms ri) t=some v:=h
     by_cases e:x.d=t
     ·subst e;rw [Qz]at h;cases h;exact(hadd' x fl nf j (hm _ QbE)).1 hal
     rw [Qu _ _ e]at h;exact ih hm' h
 have hpOK:∀{ri:List (It×Nat)},(∀q∈ri,q∈D.ri)->∀{t:Nat} {v:Ob},look (QlR D.ms ri) t=some v->look σ.hp t=some v:=by
  intro ri
  induction ri with
  | nil=>intro _ t v h;cases h
  | cons y ri ih=>
   intro hm t v h
   have hm':=fun q hq=>hm q (Qca _ hq)
   obtain⟨it,j⟩:=y
   cases it with
   | tn M=>exact ih hm' h
   | add x fl nf=>
    rw [QlR]at h
    cases hal:Qsk x fl (D.ms.drop j)with
    | false=>rw [hal]at h;exact ih hm' h
    | true=>
     rw [hal]at h
     cases hob:x.ob with
     | none=>rw [hob]at h;exact ih hm' h
     | some ob=>
      rw [hob]at h
      have h:look ((x.d,ob)::QlR D.ms ri) t=some v:=h
      by_cases e:x.d=t
      ·subst e;rw [Qz]at h;cases h;exact(hadd' x fl nf j (hm _ QbE)).2 hal _ hob
      rw [Qu _ _ e]at h;exact ih hm' h
 refine AK.weaken (fun a w hR=>hR.to (QDV fun p hp'=>?_) (QDW fun p hp'=>?_) hc) k
 ·have:=QtK hf1 p hp'
  rw [QfM]at this
  cases hl:look (Qm8 D.ms D.ri) p.1 with
  | some v=>rw [hl]at this;cases this;exact frOK (fun _ h=>h) hl
  | none=>rw [hl]at this;exact hsub.1 _ _ this
 have:=QtK hf2 p hp'
 rw [QfM]at this
 cases hl:look (QlR D.ms D.ri) p.1 with
 | some v=>rw [hl]at this;cases this;exact hpOK (fun _ h=>h) hl
 | none=>rw [hl]at this;exact hsub.2 _ _ this
end
theorem Stp.callSame {P:Program}{C:Ctx}{T:Tab}{n:Nat}{o:Oper}{md:MD}{f:Operand->Option V}{hp:Nat->Option Ob}{σ:St}{d:Nat}{v:V}{q:Prop}(ok:Qd0 P T)(hN:Qdy P C n)(h1:∀x u,f x=some u->σ.opd x=some u)(h2:∀b u,hp b=some u->look σ.hp b=some u)
  (e:mu1 P C T n md o f hp=some (⟨[],[],some (d,v)⟩,some q)) (hq:q):Stp P C o σ (σ.addF ⟨d,v,none⟩):=QzG (q:=some q) ok hN e hq h1 h2
theorem QtL {α:Type}{f:α->List V}{l:List α}{k h:Nat}:((l.map f).drop k).take (h-k)=((l.drop k).take (h-k)).map f:=by simp
end Go.Vm
namespace Go.Vm
open Go Go.RowKit
section
variable {P:Program}{C:Ctx}{σ:St}{o:Oper}
def Qy3 (P:Program)(T:TypeId)(k:IntKind):Bool:=match P.underlying T with
 | some (.int q)=>ikB q k
 | _=>false
theorem QAF {T:TypeId}{k:IntKind}(h:Qy3 P T k=true):P.underlying T=some (.int k):=by
 unfold Qy3 at h
 split at h
 ·rename_i q hq;rw [hq,QAr h]
 cases h
theorem Stp.convI {S T d:Nat}{x:Operand}{k k':IntKind}{n:Int}(ho:o.op=.convert S T x)(hd:o.dst=some d)(hn:Nat.ble (d+1) C.n=true)(hx:σ.opd x=some (.i k' n))(hs:Qy3 P S k'=true)(hT:Qy3 P T k=true):Stp P C o σ (σ.put d (.i k (k.wrap n))):=by
 refine Stp.same hd hn fun φ a w hr=>⟨.int k (k.wrap n),?_,.dat (.i _ _)⟩
 simp [execOp,ho,(hr.opd hx).i_inv,convert,run_underlying (QAF hs),run_underlying (QAF hT),Conv.intToInt]
def QB7 (k:IntKind)(m n:Int):Int:=k.wrap (m*2 ^ (min n.toNat k.bits))
def QeB (k:IntKind)(m n:Int):Int:=m.fdiv (2 ^ (min n.toNat k.bits))
theorem Stp.shl {x y:Operand}{T U d:Nat}{k k':IntKind}{m n:Int}(ho:o.op=.binOp .shl T x y U)(hd:o.dst=some d)(hn:Nat.ble (d+1) C.n=true)(hx:σ.opd x=some (.i k m))(hy:σ.opd y=some (.i k' n))(h0:0<=n):Stp P C o σ (σ.put d (.i k (QB7 k m n))):=by
 refine Stp.same hd hn fun φ a w hr=>⟨.int k _,?_,.dat (.i _ _)⟩
 have:¬n<0:=by omega
 simp [execOp,ho,(hr.opd hx).i_inv,(hr.opd hy).i_inv,eqGuard,binOp,Op.shift,this,QB7]
theorem Stp.shr {x y:Operand}{T U d:Nat}{k k':IntKind}{m n:Int}(ho:o.op=.binOp .shr T x y U)(hd:o.dst=some d)(hn:Nat.ble (d+1) C.n=true)(hx:σ.opd x=some (.i k m))(hy:σ.opd y=some (.i k' n))(h0:0<=n):Stp P C o σ (σ.put d (.i k (QeB k m n))):=by
 refine Stp.same hd hn fun φ a w hr=>⟨.int k _,?_,.dat (.i _ _)⟩
 have:¬n<0:=by omega
 simp [execOp,ho,(hr.opd hx).i_inv,(hr.opd hy).i_inv,eqGuard,binOp,Op.shift,this,QeB]
def Qd6 (k:IntKind)(m n:Int):Int:=k.wrap ((BitVec.ofInt k.bits m &&& BitVec.ofInt k.bits n).toNat:Int)
theorem Stp.andB {x y:Operand}{T U d:Nat}{k:IntKind}{m n:Int}(ho:o.op=.binOp .and T x y U)(hd:o.dst=some d)(hn:Nat.ble (d+1) C.n=true)(hx:σ.opd x=some (.i k m))(hy:σ.opd y=some (.i k n)):Stp P C o σ (σ.put d (.i k (Qd6 k m n))):=
 Stp.same hd hn fun φ a w hr=>⟨.int k _,by simp [execOp,ho,(hr.opd hx).i_inv,(hr.opd hy).i_inv,eqGuard,binOp,Op.intBits,Qd6],.dat (.i _ _)⟩
def QhU : List V->Option (List Value)
 | []=>some []
 | .i k n::r=>(QhU r).map (.int k n::·)
 | .b x::r=>(QhU r).map (.bool x::·)
 | .s x::r=>(QhU r).map (.string x::·)
 | _=>none
theorem QCT {φ:Nat->Option Blk}{I:Nat->Prop}{w:World}:∀{cs:List V} {vs xs:List Value},QhU cs=some vs->xs.length=cs.length->(∀(j:Nat) x v,xs[j]? = some x->cs[j]? = some v->Rep φ I w x v)->xs=vs:=by
 intro cs
 induction cs with
 | nil=>intro vs xs h hl _;cases h;exact List.eq_nil_of_length_eq_zero hl
 | cons c cs ih=>
  intro vs xs h hl hr
  cases xs with
  | nil=>cases hl
  | cons x xs=>
   have h0:=hr 0 x c rfl rfl
   have hi:∀{us:List Value},QhU cs=some us->xs=us:=fun e=>ih e (by simpa using hl) fun j x v a b=>hr (j+1) x v a b
   cases c with
   | i k n=>simp only [QhU,Qa1]at h;obtain⟨us,e,rfl⟩:=h;rw [h0.i_inv,hi e]
   | b k=>simp only [QhU,Qa1]at h;obtain⟨us,e,rfl⟩:=h;rw [h0.b_inv,hi e]
   | s k=>simp only [QhU,Qa1]at h;obtain⟨us,e,rfl⟩:=h;rw [h0.s_inv,hi e]
   | _=>cases h
theorem Rep.aggVals {φ:Nat->Option Blk}{I:Nat->Prop}{w:World}{x:Value}{cs:List V}{vs:List Value}(h:Rep φ I w x (.agg cs))(hv:QhU cs=some vs):x=.agg vs.toArray:=by
 obtain⟨xs,rfl,hs,hr⟩:=h.agg_inv
 have:=QCT (xs:=xs.toList) hv (by simpa using hs) fun j x v a b=>hr j x v (by simpa using a) b
 rw [<-this]
def EqT (P:Program)(T:TypeId)(vs us:List Value)(r:Bool):Prop:=P.eqGuardType P.depth T=false/\∀w,(Op.equalIn 10000 T (.agg vs.toArray) (.agg us.toArray)).run P w=.ok r w
theorem Stp.eqAgg {x y:Operand}{T U d:Nat}{cs ds:List V}{vs us:List Value}{r:Bool}(ho:o.op=.binOp .eql T x y U)(hd:o.dst=some d)(hn:Nat.ble (d+1) C.n=true)(hx:σ.opd x=some (.agg cs))(hy:σ.opd y=some (.agg ds))(hv:QhU cs=some vs)(hu:QhU ds=some us)(he:EqT P T vs us r):
  Stp P C o σ (σ.put d (.b r)):=by
 refine Stp.same hd hn fun φ a w hr=>⟨.bool r,?_,.dat (.b _)⟩
 have h1:=(hr.opd hx).aggVals hv
 have h2:=(hr.opd hy).aggVals hu
 have h3:=he.2 w
 simp only [execOp,ho,h1,h2,eqGuard,Sem.run_bind,run_program,Result.andThen_ok,he.1]
 simp [binOp,Op.equal,Op.maxDepth,h3,he.1]
theorem Stp.neAgg {x y:Operand}{T U d:Nat}{cs ds:List V}{vs us:List Value}{r:Bool}(ho:o.op=.binOp .neq T x y U)(hd:o.dst=some d)(hn:Nat.ble (d+1) C.n=true)(hx:σ.opd x=some (.agg cs))(hy:σ.opd y=some (.agg ds))(hv:QhU cs=some vs)(hu:QhU ds=some us)(he:EqT P T vs us r):
  Stp P C o σ (σ.put d (.b (!r))):=by
 refine Stp.same hd hn fun φ a w hr=>⟨.bool (!r),?_,.dat (.b _)⟩
 have h1:=(hr.opd hx).aggVals hv
 have h2:=(hr.opd hy).aggVals hu
 have h3:=he.2 w
 simp only [execOp,ho,h1,h2,eqGuard,Sem.run_bind,run_program,Result.andThen_ok,he.1]
 simp [binOp,Op.equal,Op.maxDepth,h3,he.1]
end
section
variable {P:Program}{C:Ctx}{σ:St}{Q:Exit->St->Prop}{ks:List Fr}{ops:Array Oper}{rest:List Oper}{o:Oper}
theorem AK.eqNil {x y:Operand}{T U d e z:Nat}{rows:List (List V)}(hg:o.guard=none)(ho:o.op=.binOp .eql T x y U)(hd:o.dst=some d)(hn:Nat.ble (d+1) C.n=true)(hx:σ.opd x=some (.sl z rows))(hy:σ.opd y=some (.lit (.slice none 0 0)))(hT:P.underlying T=some (.slice e))
  (h1:rows=[]->AK P C Q (.o ops rest) ks (σ.put d (.b true))) (h2:AK P C Q (.o ops rest) ks (σ.put d (.b false))):AK P C Q (.o ops (o::rest)) ks σ:=by
 intro a w hR
 obtain⟨φ,hr⟩:=hR
 have hyv:a.eval y=.slice none 0 0:=(hr.opd hy).lit_inv
 have run:∀p l c,a.eval x=.slice p l c->(execOp a.eval o).run P w=.ok (.value (.bool p.isNone)) w:=fun p l c e=>by
  simp [execOp,ho,e,hyv,eqGuard,binOp,run_equal_slice_nil w T _ p l c hT]
 have go:∀{v:Bool} {σ':St},(execOp a.eval o).run P w=.ok (.value (.bool v)) w->σ'=σ.put d (.b v)->AK P C Q (.o ops rest) ks σ'->wpListIn C.F 0 P ops (up C (unw P C Q ks)) (o::rest) a w:=fun {v σ'} e e2 k=>by
  have:Stp P C { o with op:=.move (.const (.bool v)) } σ (σ.put d (.b v)):=Stp.move rfl hd hn rfl
  simp only [wpListIn,Region.wanted,hg,if_true]
  refine⟨fun _ _=>trivial,?_⟩
  rw [QxP e,Oper.uponIn_value]
  subst e2
  refine k _ _ ⟨φ,?_⟩
  rw [hd]
  exact hr.put (Qaq hn) (.dat (.b _))
 rcases(hr.opd hx).sl_inv with⟨p,c,he,h0⟩|⟨b,off,cap,he,_⟩
 ·cases p with
  | none=>exact go (run none 0 c he) rfl (h1 h0)
  | some p=>exact go (run (some p) 0 c he) rfl h2
 exact go (run _ _ _ he) rfl h2
end
section
variable {P:Program}{C:Ctx}{σ:St}{o:Oper}
theorem Stp.buildAny {T d e z by_ n:Nat}{parts:Array (Nat×Operand)}{zs vs:List V}{qs:List (Nat×V)}(ho:o.op=.buildSlice T n parts)(hd:o.dst=some d)(hn:Nat.ble (d+1) C.n=true)
  (hT:QaA P T=some (e,z,by_)) (hz:QaC P e=some zs) (hzl:zs.length=z) (hz0:z≠0) (hbig:n*z<=16777216) (hq:σ.opds parts.toList=some qs) (hv:qs.all (fun q=>q.2.isV)=true)
  (hf:QfD (fun i=>some (i*z,z)) ((List.range (n*z)).map fun k=>zs.getD (k % z) .J) qs=some vs)
  (hfr:look σ.hp d=none):Stp P C o σ ((σ.set d (.var vs)).put d (.own d n)):=by
 refine Stp.val fun φ a w hr=>?_
 obtain⟨hu,i,hi,hi1,_⟩:=Qc4 hT
 obtain⟨i',zv,hi',hz',rfl⟩:=Qii hz
 rw [hi]at hi';cases hi'
 have hzs:zv.cells.size=i.size:=by rw [hi1];simpa using hzl
 have hf0:=hf
 rw [<-hi1]at hf
 rw [<-Qtr zv.cells n i.size hzs (by omega)]at hf
 obtain⟨xs',h1,h2,h3⟩:=hr.fill hq hv hf
 refine⟨.slice (some ⟨w.heap.size,0,none⟩) n n,w.alloc (.cells xs' e),ext φ d ⟨w.heap.size,n,1,[],0⟩,?_,?_⟩
 ·have e2:(parts.map fun p=>(p.1,a.eval p.2)).toList=parts.toList.map fun p=>(p.1,a.eval p.2):=by simp
  have hb:¬(n*i.size > 2 ^ 24):=by rw [hi1];omega
  by_cases hn0:n*i.size=0
  ·have hn1:n=0:=by
    rw [hi1]at hn0
    rcases Nat.mul_eq_zero.1 hn0 with h | h
    ·exact h
    exact absurd h hz0
   subst hn1
   simp only [QmZ]at h1
   rw [QyS,Array.map_empty]at h1
   simp only [execOp,ho,Instr.buildSlice,Sem.run_bind,run_underlying hu,Result.andThen_ok,sizeOf,typeInfo,run_program,hi,Sem.run_pure,QmZ,if_true,e2,QyS,Array.map_empty]
   simp [h1,newRow]
  simp only [execOp,ho,Instr.buildSlice,Sem.run_bind,run_underlying hu,Result.andThen_ok,sizeOf,typeInfo,run_program,hi,Sem.run_pure,if_neg hb,if_neg hn0,zeroValue,hz',e2,h1,newRow,run_newObj]
  simp
 have hN:=hr.none_of_look hfr
 have hnew:=hr.alloc (cap:=n) (z:=1) hfr (C.slot hn) (ob:=.var vs) (obj:=.cells xs' e)
  ⟨xs',e,heap_alloc_new w _,h2,rfl,fun j x v hx hv'=>(h3 j x v hx hv').mono (hr.mono_ext _ hN) (hr.imm_alloc d n 1 _ hN)⟩
 rw [hd]
 refine hnew.put (Qaq hn) ?_
 exact .own d n ⟨w.heap.size,n,1,[],0⟩ (Q9 _ _ _) (QcR _)
theorem Stp.idxV {T d e z by_ b n m:Nat}{x y:Operand}{cs:List V}{k:IntKind}{j:Int}(ho:o.op=.indexAddr T x y)(hd:o.dst=some d)(hn:Nat.ble (d+1) C.n=true)
  (hx:σ.opd x=some (.own b n)) (hy:σ.opd y=some (.i k j)) (hT:QaA P T=some (e,z,by_)) (hb:look σ.hp b=some (.var cs)) (h0:(0<=j/\j<n)/\j.toNat*z=m):
  Stp P C o σ (σ.put d (.loc b 0 m)):=by
 refine Stp.same hd hn fun φ a w hr=>?_
 obtain⟨⟨h0,h1⟩,rfl⟩:=h0
 rcases(hr.opd hx).own_inv with⟨_,rfl⟩|⟨B,hB,hcap,he⟩
 ·omega
 refine⟨.pointer (some ⟨B.b,B.off+(0*B.z+j.toNat*z),none⟩),?_,.loc b 0 (j.toNat*z) B hB⟩
 simp only [execOp,ho,he,(hr.opd hy).i_inv,Sem.run_bind,Qp5 hT h0 h1,Result.andThen_ok,Sem.run_pure,Addr.add_lit,QmZ,QkW]
end
section
variable {P:Program}{C:Ctx}{Q:Exit->St->Prop}
def Rnd (P:Program)(C:Ctx)(Q:Exit->St->Prop)(ks:List Fr)(c:Code):Nat->St->Prop
 | 0,_=>False
 | n+1,σ=>AK P C Q (.c c) (.cut (Rnd P C Q ks c n)::ks) σ
theorem AK.rnd {ks:List Fr}{c:Code}{n:Nat}{σ:St}(h:AK P C Q (.c c) (.cut (Rnd P C Q ks c n)::ks) σ):Rnd P C Q ks c (n+1) σ:=h
theorem AK.loopN {ks:List Fr}{c:Code}(n:Nat){σ:St}(h:Rnd P C Q ks c n σ):AK P C Q (.c (.loop c)) ks σ:=by
 have key:∀(n:Nat) (σ:St) (a:Act) (w:World),Rnd P C Q ks c n σ->R C σ a w->Code.roundsIn C.F 0 P c (up C (unw P C Q ks)) n a w:=by
  intro n
  induction n with
  | zero=>intro σ a w h;exact h.elim
  | succ n ih=>
   intro σ a w h hR
   rw [roundsIn_succ]
   refine wpIn_mono (h a w hR) ?_
   rintro e a' w' ⟨σ',h1,h2⟩
   cases e with
   | normal=>exact ih σ' a' w' h1 h2
   | _=>exact⟨σ',h1,h2⟩
 exact fun a w hR=>wpIn_loop_rounds n (key n σ a w h hR)
end
end Go.Vm
namespace Go.Vm
open Go Go.RowKit
def Qx2 (cs:List V):List Tmp->List V->List V
 | p::ps,v::vs=>Qx2 (cs.set p v) ps vs
 | _,_=>cs
theorem QCU {φ:Nat->Option Blk}{I:Nat->Prop}{w:World}:∀(ps:List Tmp) (ags:List Value) (vs:List V) (tm:Array Value) (cs:List V),ags.length=vs.length->tm.size=cs.length->
  (∀(j:Nat) x v,tm[j]? = some x->cs[j]? = some v->Rep φ I w x v)->(∀(j:Nat) x v,ags[j]? = some x->vs[j]? = some v->Rep φ I w x v)->
  ((ps.zip ags).foldl (fun tm p=>tm.setIfInBounds p.1 p.2) tm).size=(Qx2 cs ps vs).length/\∀(j:Nat) x v,((ps.zip ags).foldl (fun tm p=>tm.setIfInBounds p.1 p.2) tm)[j]? = some x->(Qx2 cs ps vs)[j]? = some v->Rep φ I w x v:=by
 intro ps
 induction ps with
 | nil=>intro ags vs tm cs _ h2 h3 _;cases vs<;>exact⟨h2,h3⟩
 | cons p ps ih=>
  intro ags vs tm cs h1 h2 h3 h4
  cases ags with
  | nil=>cases vs with
   | nil=>exact⟨h2,h3⟩
   | cons=>cases h1
  | cons y ags=>cases vs with
   | nil=>cases h1
   | cons v vs=>
    refine ih ags vs (tm.setIfInBounds p y) (cs.set p v) (by simpa using h1) (by simpa using h2) (fun j x u hx hu=>?_) fun j x u hx hu=>h4 (j+1) x u hx hu
    by_cases e:p=j
    ·subst e
     rw [Array.getElem?_setIfInBounds_self]at hx
     rw [List.getElem?_set_self']at hu
     split at hx
     ·rename_i hlt
      cases hx
      rw [QH (by omega)]at hu
      cases hu
      exact h4 0 _ _ rfl rfl
     cases hx
    rw [QAi e]at hx
    rw [List.getElem?_set_ne e]at hu
    exact h3 j x u hx hu
def Qox (P:Program)(l:Nat)(K:Qhw)(us:List V)(hs:List (Nat×Ob))(post:V->List (Nat×Ob)->Prop):Prop:=
 ∀(S:Nat->Prop) (φ:Nat->Option Blk) (w:World) (vals:Array Value),Ins S φ w vals us hs->QoM P S w->
  RoundIn Fence.wide 0 P l K.fn vals K.assign K.body w fun e w'=>∃x v hs' φ',e=.returned x/\post v hs'/\Outs S φ w φ' w' x v hs'
theorem QE0 {C:Ctx}{n:Nat}{P:Program}{l:Nat}{f:FuncId}{tmps:Array Value}{assign body:Code}{w:World}{R:Ending->World->Prop}(h:RoundIn Fence.wide 0 P l f tmps assign body w R):RoundIn C.F n P l f tmps assign body w R:=
 ⟨trivial,fun c cs _=>h.2 c cs (room_wide _)⟩
section
variable {P:Program}{C:Ctx}{φ:Nat->Option Blk}{σ:St}{a:Act}{w:World}{o:Oper}
theorem RR.lp (h:RR C φ σ a w){b l:Nat}{K:Qhw}{cs:List V}{q:Nat}(hb:look σ.hp b=some (.lp l K cs q)):∃B,φ b=some B/\QEo φ (Imm C φ w) w B l K cs q:=by
 rcases h.heap b _ hb with h | ⟨_,h⟩
 ·exact h
 exact h.elim
theorem RR.lpSet (h:RR C φ σ a w){b l:Nat}{K:Qhw}{cs:List V}{q q':Nat}(hb:look σ.hp b=some (.lp l K cs q)):
  ∃r:Loop,w.heap[l]? = some (.loop r)/\r.state=lst q/\r.pending=jmp q/\RR C φ (σ.set b (.lp l K cs q')) a (w.putObj l (.loop { r with state:=lst q',pending:=jmp q' })):=by
 obtain⟨B,hB,tmps,D,rfl,h1,h2,h3,h4⟩:=h.lp hb
 refine⟨_,h2,rfl,rfl,?_⟩
 have hlt:=(h.lt b B B.b hB B.self).1
 have hk:∀k,k≠B.b->(w.putObj B.b (.loop { state:=lst q',pending:=jmp q',fn:=K.fn,tmps,params:=K.ps,assign:=K.assign,body:=K.body,defers:=D })).heap[k]? = w.heap[k]? := fun k hk=>World.putObj_heap_other hk
 refine h.write hB rfl rfl rfl World.putObj_size hk ⟨tmps,D,rfl,h1,World.putObj_heap_same hlt,h3,fun j x v hx hv=>?_⟩
 refine(h4 j x v hx hv).mono (fun _ _ h=>h) fun k hk'=>⟨⟨by rw [World.putObj_size];exact hk'.1,hk'.2⟩,hk k fun e=>hk'.2.2 b B hB (.inl e)⟩
theorem Stp.yield {d b l:Nat}{K:Qhw}{cs:List V}{q:Nat}{x:Operand}{ags:Array Operand}{ts:Array TypeId}{M N:List (Nat×Nat)}{dead:List Nat}{hsC outs hsN:List (Nat×Ob)}{vs us:List V}{r r':V}(ho:o.op=.call { callee:=.value x,args:=ags,argTypes:=ts })
  (hx:σ.opd x=some (.clo (.yield l) [] [])) (hlp:look σ.hp b=some (.lp l K cs q)) (hq:q=0) (ha:σ.opsV ags.toList=some vs) (hps:vs.length=K.ps.size) (hd:o.dst=some d) (hn:Nat.ble (d+1) C.n=true) (hpg:C.pg P)
  (hnm:Qec σ M N dead outs=true) (hnd:(M.map Prod.fst).Nodup)
  (hv:Vws σ.hp false false (Qfo M) (fun a b=>look M b=some a) (Qx2 cs K.ps.toList vs) us) (hobs:QlE σ.hp false false (Qfo M) (fun a b=>look M b=some a) σ.hp M hsC)
  (hc:Qox P l K us hsC (Gives r outs)) (hback:QlE [] false false [] (fun c b=>look N b=some c) outs N hsN) (hr':Vw [] false false [] (fun c b=>look N b=some c) r r'):
  Stp P C o σ ((σ.after dead hsN).put d r'):=by
 intro a w ⟨φ,hr⟩ next Q hnext
 subst hq
 have hN:=Names.of hnm hnd
 refine⟨fun _ _=>trivial,?_⟩
 obtain⟨h1,h2⟩:=hr.opsV _ _ ha
 obtain⟨xs,ys,hev,e1,e2,_,_⟩:=(hr.opd hx).clo_inv
 have e1:xs=#[]:=QBG e1
 have e2:ys=#[]:=QBG e2
 subst e1;subst e2
 obtain⟨B,hB,tmps,D,e0,_,hh,hsz,hrep⟩:=hr.lp hlp
 have hl1:(ags.toList.map a.eval).length=vs.length:=by simpa using h1
 obtain⟨s1,s2⟩:=QCU (φ:=φ) (I:=Imm C φ w) (w:=w) K.ps.toList (ags.toList.map a.eval) vs tmps cs hl1 hsz hrep (fun j x v hx hv=>by
  simp only [Qa0,Qa1]at hx
  obtain⟨y,hy,rfl⟩:=hx
  exact h2 j y v hy hv)
 have hsize:(ags.map a.eval).size=K.ps.size:=by rw [<-hps,<-hl1];simp
 have hfold:(K.ps.zip (ags.map a.eval)).foldl (fun tmps (t,a)=>tmps.setIfInBounds t a) tmps=(K.ps.toList.zip (ags.toList.map a.eval)).foldl (fun tm p=>tm.setIfInBounds p.1 p.2) tmps:=by
  rw [<-Array.foldl_toList];simp
 have hex:(execOp a.eval o).run P w=.ok (.round l K.fn ((K.ps.toList.zip (ags.toList.map a.eval)).foldl (fun tm p=>tm.setIfInBounds p.1 p.2) tmps).toList.toArray K.assign K.body) w:=by
  simp only [execOp,ho,resolve,Sem.run_bind,hev,Deferred.ofValue,Sem.run_pure,Result.andThen_ok,invoke,Array.empty_append]
  rw [run_yield hh hsize,hfold]
 rw [Oper.semAt_eq _ _ _ (by rw [ho];intro c hc;cases hc),hex,Oper.uponIn_round]
 refine⟨(fun h=>by cases h),QE0 ((hc _ _ w _ (Ins.of_vals hr (by simpa using s1) (fun j x v hx hv=>s2 j x v (by simpa using hx) hv) hN.injM hN.param hv hobs) ((hr.glob hpg).mono fun _ h=>.inl h)).mono ?_)⟩
 rintro e w' ⟨x,v,hs',φ',rfl,⟨rfl,hso⟩,hout⟩
 obtain⟨h3,h4⟩:=hr.after hN hout hso (fun c s h=>by
  obtain⟨ob',e1⟩:=hobs.get.2 c s h
  obtain⟨s',ob,e2,e3,_⟩:=hobs.get.1 c ob' e1
  rw [h]at e2;cases e2;exact⟨ob,e3⟩) hback
 refine hnext _ _ ⟨QlF φ M N dead φ',?_⟩
 rw [hd]
 exact h3.put (Qaq hn) (h4 hr')
def QE1 (b l:Nat)(K:Qhw)(post:V->List (Nat×Ob)->Prop):Exit->St->Prop
 | .normal,σ=>∃cs,look σ.hp b=some (.lp l K cs 1)/\post (.b true) ((b,.lp l K cs 0)::σ.hp)
 | .ret,σ=>∃cs,look σ.hp b=some (.lp l K cs 1)/\post (.b false) ((b,.lp l K cs 2)::σ.hp)
 | .exit k,σ=>∃cs,look σ.hp b=some (.lp l K cs 1)/\post (.b false) ((b,.lp l K cs (k+3))::σ.hp)
 | _,_=>False
theorem Qox.walk {b l:Nat}{K:Qhw}{us:List V}{hs:List (Nat×Ob)}{post:V->List (Nat×Ob)->Prop}(n:Nat)(hn:us.length=n)(hle:Nat.ble n 617=true)
  (h:∀C:Ctx,Qdy P C n->AK P C (fun e σ=>e=.normal/\∃cs,look σ.hp b=some (.lp l K cs 0)/\AK P C (QE1 b l K post) (.c K.body) [] (σ.set b (.lp l K cs 1))) (.c K.assign) [] ⟨Qm0 0 us,hs⟩):Qox P l K us hs post:=by
 intro S φ w vals hi hG
 let C:Ctx:=⟨w,S,fun k=>∃o B,φ o=some B/\B.has k,n,φ,Qcb hle,some l⟩
 have hF:Fence.wide.inRound l=C.F:=rfl
 have hI:∀k,S k->Imm C φ w k/\w.heap[k]? = w.heap[k]? := fun k hk=>⟨⟨hi.lt k hk,fun _=>hk,fun o B hB e=>((hi.dom o B hB).2.1 k e).2 hk⟩,rfl⟩
 have hR:R C ⟨Qm0 0 us,hs⟩ { tmps:=vals,defers:=[] } w:=by
  refine⟨φ,rfl,rfl,rfl,QcR _,fun _ _ _=>rfl,hi.inj,fun o B hB=>(hi.dom o B hB).2.2,fun o B k hB hk=>⟨((hi.dom o B hB).2.1 k hk).1,fun _=>⟨o,B,hB,hk⟩⟩,fun o B k hB hk hlt=>absurd (hi.dom o B hB).1 (by omega),⟨fun _ _ _ h=>h,fun _ _ _ _ _ h=>h⟩,
   by show vals.size=n;rw [hi.size,hn],⟨[],rfl,List.nodup_nil,fun _ h=>by cases h⟩,fun t v hv=>?_,fun o ob hob=>?_⟩
  ·obtain⟨_,h2⟩:=QzA us 0 t v hv
   rw [Nat.sub_zero]at h2
   have hlt:t<vals.size:=by rw [hi.size];exact(Q2.1 h2).1
   exact⟨vals[t],QfY hlt,(hi.args t _ v (QfY hlt) h2).mono (fun _ _ h=>h) hI⟩
  rcases hi.heap o ob hob with⟨B,hB,hr⟩|hn
  ·exact .inl ⟨B,hB,hr.mono (fun _ _ h=>h) hI fun _ _=>rfl⟩
  exact .inr hn
 refine roundIn_of_wpIn trivial ?_
 rw [hF]
 refine wpIn_mono (h C ⟨rfl,hG,fun g hg ⟨o,B,hB,hb⟩=>((hi.dom o B hB).2.1 g hb).2 (hG g hg).1⟩ _ _ hR) ?_
 rintro e a1 w1 ⟨σ1,⟨rfl,cs,hlp,hbody⟩,φ1,hr1⟩
 obtain⟨r,g1,g2,g3,g4⟩:=hr1.lpSet (q':=1) hlp
 refine⟨_,run_beginRound g1 g2,?_⟩
 have hbusy:({ r with state:=LoopState.busy }:Loop)={ r with state:=lst 1,pending:=jmp 1 }:=by
  rw [show jmp 1=r.pending from g3.symm];rfl
 rw [hbusy]
 refine wpIn_mono (hbody _ _ ⟨φ1,g4⟩) ?_
 rintro e a2 w2 ⟨σ2,hq,φ2,hr2⟩
 have fin:∀(jump:Option Code) (q:Nat) (cs2:List V),look σ2.hp b=some (.lp l K cs2 1)->jmp q=jump->(if jump.isNone then LoopState.ready else LoopState.done)=lst q->post (.b jump.isNone) ((b,.lp l K cs2 q)::σ2.hp)->
   ∃v w',(Instr.endRound l jump).run P w2=.ok v w'/\∃x v' hs' φ',Ending.returned v=.returned x/\post v' hs'/\Outs S φ w φ' w' x v' hs':=fun jump q cs2 hl2 hj hst hp=>by
  obtain⟨r2,k1,_,_,k4⟩:=hr2.lpSet (q':=q) hl2
  refine⟨_,_,run_endRound jump k1,.bool jump.isNone,.b jump.isNone,_,φ2,rfl,hp,?_⟩
  rw [hst,<-hj]
  exact⟨k4.os,k4.tape,k4.output,k4.size,fun k hk hne=>k4.kept k hk (fun ⟨o,B,hB,e⟩=>hne o B hB e),k4.inj,k4.dom,
   fun o B k hB hk=>⟨(k4.lt o B k hB hk).1,fun hlt=>(k4.lt o B k hB hk).2 hlt⟩,k4.new,k4.stay,.dat (.b _),k4.heap⟩
 cases e with
 | normal=>obtain⟨cs2,hl2,hp⟩:=hq;exact fin none 0 cs2 hl2 rfl rfl hp
 | ret=>obtain⟨cs2,hl2,hp⟩:=hq;exact fin (some .ret) 2 cs2 hl2 rfl rfl hp
 | exit k=>obtain⟨cs2,hl2,hp⟩:=hq;exact fin (some (.exit k)) (k+3) cs2 hl2 rfl rfl hp
 | _=>exact hq.elim
theorem RR.mark (h:RR C φ σ a w):RR C φ σ { a with defers:={ target:=.collected w.heap.size,args:=#[] }::a.defers } (w.alloc (.deferred (some []))):=by
 have hs:=h.step (w':=w.alloc (.deferred (some []))) rfl rfl rfl (by simp) (fun k hk=>Below.heap_alloc w _ k hk)
 refine⟨hs.os,hs.tape,hs.output,hs.size,hs.kept,hs.inj,hs.dom,hs.lt,hs.new,hs.stay,hs.tmps,?_,hs.frame,hs.heap⟩
 obtain⟨Ds,h1,h2,h3⟩:=hs.defers
 obtain⟨Ds',h1',h2',h3'⟩:=h.defers
 refine⟨w.heap.size::Ds',by simp [h1'],Qme.2 ⟨fun hm=>absurd (h3' _ hm).2.1.1 (by omega),h2'⟩,fun D hD=>?_⟩
 rcases Qbm.1 hD with rfl | hD
 ·refine⟨h.size,⟨by simp,fun hlt=>absurd h.size (by omega),fun o B hB hh=>absurd (h.lt o B _ hB hh).1 (by omega)⟩,World.alloc_heap_new w _⟩
 obtain⟨a1,a2,a3⟩:=h3' D hD
 exact⟨a1,⟨by have:=a2.1;simp;omega,a2.2⟩,(Below.heap_alloc w _ D a2.1).trans a3⟩
theorem RR.killTo (h:RR C φ σ a w){b:Nat}{B:Blk}(hB:φ b=some B){w':World}(ho:w'.os=w.os)(ht:w'.tape=w.tape)(hu:w'.output=w.output)(hs:w'.heap.size=w.heap.size)(hk:∀k,k≠B.b->w'.heap[k]? = w.heap[k]?):RR C (del φ b) (σ.kill b) a w':=by
 have hI:∀k,Imm C φ w k->Imm C (del φ b) w' k/\w'.heap[k]? = w.heap[k]? := fun k hk'=>⟨⟨by rw [hs];exact hk'.1,hk'.2.1,fun o B' hB'=>hk'.2.2 o B' (Qcc hB').2⟩,hk k fun e=>hk'.2.2 b B hB (.inl e)⟩
 have hφ:∀o B,o≠b->φ o=some B->del φ b o=some B:=fun o B ho hB=>by rw [Qev ho];exact hB
 refine⟨ho.trans h.os,ht.trans h.tape,hu.trans h.output,by rw [hs];exact h.size,fun k h1 h2=>(hk k fun e=>h2 ((h.lt b B k hB (.inl e)).2 h1)).trans (h.kept k h1 h2),fun o o' B B' k h1 h2=>h.inj o o' B B' k (Qcc h1).2 (Qcc h2).2,?_,fun o B k hB=>by rw [hs];exact h.lt o B k (Qcc hB).2,fun o B k hB=>h.new o B k (Qcc hB).2,
  ⟨fun o B h1 hB=>h.stay.1 o B h1 (Qcc hB).2,fun o ob B h1 ho hB=>by obtain⟨hne,ob',h2,_⟩:=Qc0 _ _ _ ho;rw [Qev hne];exact h.stay.2 o ob' B h1 h2 hB⟩,h.tmps,h.defers.mono hI,?_,?_⟩
 ·intro o B hB
  obtain⟨h1,h2⟩:=Qcc hB
  obtain⟨ob,hob⟩:=h.dom o B h2
  exact⟨_,Qf0 _ _ _ h1 hob⟩
 ·intro t v hv
  obtain⟨v',hv',rfl⟩:=Qog _ _ _ hv
  obtain⟨x,hx,hr⟩:=h.frame t v' hv'
  exact⟨x,hx,hr.kill hφ hI⟩
 intro o ob hob
 obtain⟨hne,ob',hob',rfl⟩:=Qc0 _ _ _ hob
 rcases h.heap o ob' hob' with⟨B',hB',hr⟩|⟨h1,hz⟩
 ·exact .inl ⟨B',hφ o B' hne hB',hr.kill hφ hI fun k hk'=>hk k fun e=>hne (h.inj o b B' B k hB' hB hk' (.inl e))⟩
 exact .inr ⟨by rw [Qev hne];exact h1,hz.kill⟩
def snap (ts:List Nat)(fr:List (Nat×V))(n:Nat):List V:=(List.range n).map fun t=>bif Qab ts t then(match look fr t with
 | some v=>v
 | none=>.J)else .J
theorem RR.snap {ts:List Nat}(h:RR C φ σ a w):∀(j:Nat) x v,a.tmps[j]? = some x->(snap ts σ.fr C.n)[j]? = some v->Rep φ (Imm C φ w) w x v:=by
 intro j x v hx hv
 simp only [Vm.snap,Qa0,Qa1]at hv
 obtain⟨t,ht,rfl⟩:=hv
 obtain⟨_,rfl⟩:=Q2.1 ht
 simp only [QvZ]at *
 cases hm:Qab ts j with
 | false=>exact .dat (.J _)
 | true=>
 simp only [cond_true]
 split
 ·rename_i v hv
  obtain⟨y,hy,hr⟩:=h.frame _ _ hv
  rw [hx]at hy;cases hy;exact hr
 exact .dat (.J _)
def rgV (P:Program)(σ:St)(f:Nat)(vs:List V)(M N:List (Nat×Nat))(dead:List Nat)(ms:List Qfq)(outs:List (Nat×Ob))(r:V):Option (St×Prop):=
 bif Qec σ M N dead outs&&QhR (M.map Prod.fst)&&QhR (N.map Prod.fst)then match Qm5 (bkM M) ms vs with
  | some us=>match Qjl (bkM M) (look σ.hp) M with
   | some hsC=>match Qjl (bkM N) (look outs) N with
    | some hsN=>some (σ.after dead hsN,Qc P f us hsC (Gives r outs))
    | none=>none
   | none=>none
  | none=>none
 else none
def atJ (p:Prop)(f:Code->Prop):Option Code->Prop
 | none=>p
 | some c=>f c
theorem AK.rangeF {Q:Exit->St->Prop}{ks:List Fr}{g:Operand}{ps:Array Tmp}{assign body:Code}{f n:Nat}{fs cps:List V}(b:Nat)(ts:List Nat)(M N:List (Nat×Nat))(dead:List Nat)(ms:List Qfq)(K:Nat->Qhw)(hCn:Qdy P C n)(hrnd:C.rnd=none)(hK:∀fn,K fn=⟨fn,ps,assign,body⟩)
  (hg:σ.opd g=some (.clo (.func f) fs cps)) (he:Qsg P f=true) (hb:look σ.hp b=none) (hb2:Nat.ble 617 b=false)
  (H:∀l fn,∃outs r σ2 φ2 cs2 q,rgV P (σ.set b (.lp l (K fn) (snap ts σ.fr n) 0)) f (fs++(.clo (.yield l) [] []::cps)) M N dead ms outs r=some (σ2,φ2)/\φ2/\look σ2.hp b=some (.lp l (K fn) cs2 q)/\q≠1/\
   atJ (AK P C Q (.x .normal) ks (σ2.kill b)) (fun c=>AK P C Q (.c c) ks (σ2.kill b)) (jmp q)):AK P C Q (.c (.rangeFunc g ps assign body)) ks σ:=by
 obtain rfl:K=fun fn=>⟨fn,ps,assign,body⟩:=funext hK
 have hpg:=hCn.g
 replace hCn:=hCn.n
 subst hCn
 intro a w ⟨φ,hr⟩
 refine wpIn_rangeFunc fun fn _=>?_
 obtain⟨outs,r,σ2,φ2,cs2,q,e,hφ2,hq,hq1,hk⟩:=H (w.heap.size+1) fn
 obtain⟨xs,ys,hev,e1,e2,e3,e4⟩:=(hr.opd hg).clo_inv
 have hb3:b<617:=Qfp (by rw [hb2];rfl)
 refine⟨w.heap.size+1,[{ target:=.collected w.heap.size,args:=#[] }],(w.alloc (.deferred (some []))).alloc (.loop { state:=.ready,pending:=none,fn,tmps:=a.tmps,params:=ps,assign,body,defers:=w.heap.size }),{ target:=.fn (.func f) ys,args:=xs++#[.func (.yield (w.heap.size+1)) #[] #[]] },(w.alloc (.deferred (some []))).alloc (.loop { state:=.ready,pending:=none,fn,tmps:=a.tmps,params:=ps,assign,body,defers:=w.heap.size }),f,(xs++#[.func (.yield (w.heap.size+1)) #[] #[]])++ys,(w.alloc (.deferred (some []))).alloc (.loop { state:=.ready,pending:=none,fn,tmps:=a.tmps,params:=ps,assign,body,defers:=w.heap.size }),?_,?_,fun _ _=>trivial,?_,(fun h=>by cases h),?_⟩
 ·rw [show C.F.round=none from hrnd];exact run_enterLoop_outer _ _ _ _ _
 ·have hy:a.eval (.const (.func (.yield (w.heap.size+1)) #[] #[]))=.func (.yield (w.heap.size+1)) #[] #[]:=rfl
  simp only [resolve,hev,Deferred.ofValue,Sem.run_pure,List.map_toArray,Qgm,List.map_nil,hy]
 ·exact QhP he
 have hm:=hr.mark
 have hN0:=hm.none_of_look hb
 have hsz:(w.alloc (.deferred (some []))).heap.size=w.heap.size+1:=by simp
 have hR1:=hm.alloc (cap:=0) (z:=0) hb hb3 (ob:=.lp (w.heap.size+1) ⟨fn,ps,assign,body⟩ (snap ts σ.fr C.n) 0)
  (obj:=.loop { state:=.ready,pending:=none,fn,tmps:=a.tmps,params:=ps,assign,body,defers:=w.heap.size })
  ⟨a.tmps,w.heap.size,hsz,rfl,by rw [<-hsz];exact World.alloc_heap_new _ _,by rw [hr.tmps];simp [Vm.snap],fun j x v hx hv=>(hm.snap j x v hx hv).mono (hm.mono_ext _ hN0) (hm.imm_alloc b 0 0 _ hN0)⟩
 rw [hsz]at hR1
 generalize hσ1:σ.set b (.lp (w.heap.size+1) ⟨fn,ps,assign,body⟩ (snap ts σ.fr C.n) 0)=σ1 at hR1 e
 generalize hw1:(w.alloc (.deferred (some []))).alloc (.loop { state:=.ready,pending:=none,fn,tmps:=a.tmps,params:=ps,assign,body,defers:=w.heap.size })=w1 at hR1 ⊢
 have hval:(xs++#[.func (.yield (w.heap.size+1)) #[] #[]])++ys=(xs.toList++(.func (.yield (w.heap.size+1)) #[] #[]::ys.toList)).toArray:=by apply Array.ext';simp
 rw [hval]
 unfold rgV at e
 replace e:=Qag e;obtain⟨e0,e⟩:=e
 simp only [QA]at e0
 obtain⟨⟨h1,h2⟩,h3⟩:=e0
 have h2:=Qc5.1 h2
 have h3:=Qc5.1 h3
 have inj:Qiq M=true/\Qiq N=true:=by
  simp only [Qec,QA]at h1
  exact⟨h1.1.1.1,h1.1.1.2⟩
 have mM:∀a b,bkM M a=some b->look M b=some a:=fun a b h=>Qb1 inj.1 (QgI h) h2
 have mN:∀a b,bkM N a=some b->look N b=some a:=fun a b h=>Qb1 inj.2 (QgI h) h3
 have hNm:=Names.of h1 h2
 split at e
 case h_2=>cases e
 rename_i us hus
 split at e
 case h_2=>cases e
 rename_i hsC hC
 split at e
 case h_2=>cases e
 rename_i hsN hNN
 cases e
 have hobs:=Qdz (hp:=σ1.hp) (g:=false) (bad:=Qfo M) mM hC
 have hfr1:σ1.fr=σ.fr:=by rw [<-hσ1];rfl
 refine QsA ((hφ2 _ _ w1 _ (Ins.of_vals (g:=false) (vs:=fs++(.clo (.yield (w.heap.size+1)) [] []::cps)) hR1 (by simp [e1,e2]) (fun j x v hx hv=>?_) hNm.injM hNm.param (Qjd mM hus) hobs) ((hR1.glob hpg).mono fun _ h=>.inl h)).mono ?_)
 ·have up:=fun {x:Value} {v:V} (h:Rep φ (Imm C φ w) w x v)=>(h.mono (φ':=φ) (I':=Imm C φ (w.alloc (.deferred (some [])))) (w':=w.alloc (.deferred (some []))) (fun _ _ h=>h) fun k hk=>⟨⟨by have:=hk.1;simp;omega,hk.2⟩,Below.heap_alloc w _ k hk.1⟩).mono (hm.mono_ext ⟨w.heap.size+1,0,0,[],0⟩ hN0) (by
   have:=hm.imm_alloc b 0 0 (.loop { state:=.ready,pending:=none,fn,tmps:=a.tmps,params:=ps,assign,body,defers:=w.heap.size }) hN0
   rw [hsz,hw1]at this;exact this)
  by_cases c1:j<fs.length
  ·rw [Qbw (by simpa using (by omega:j<xs.size))]at hx
   rw [Qbw c1]at hv
   exact up (e3 j x v (by simpa using hx) hv)
  rw [QcA (by simp;omega)]at hx
  rw [QcA (by omega)]at hv
  simp only [Array.length_toList]at hx
  rw [e1]at hx
  generalize j-fs.length=i at hx hv
  cases i with
  | zero=>
   simp at hx hv;subst hx;subst hv
   exact .clo (.yield _) #[] #[] [] [] rfl rfl (fun j x v h=>by simp at h) (fun j x v h=>by simp at h)
  | succ i=>simp only [Qtj]at hx hv;exact up (e4 i x v (by simpa using hx) hv)
 rintro e w' ⟨x,v,hs',φ',rfl,⟨rfl,hso⟩,hout⟩
 obtain⟨k3,_⟩:=hR1.after hNm hout hso (fun c s h=>by
  obtain⟨ob',e1⟩:=hobs.get.2 c s h
  obtain⟨s',ob,e2,e3,_⟩:=hobs.get.1 c ob' e1
  rw [h]at e2;cases e2;exact⟨ob,e3⟩) (Qdz mN hNN)
 obtain⟨B,hB,tmps,D,f1,f2,f3,f4,f5⟩:=k3.lp hq
 have hst:lst q≠.busy:=by
  match q,hq1 with
  | 0,_=>exact(by intro h;cases h)
  | 1,h=>exact absurd rfl h
  | k+2,_=>exact(by intro h;cases h)
 refine⟨_,_,run_endLoop f3 hst,?_⟩
 have hkill:=k3.killTo hB (w':=w'.putObj (w.heap.size+1) (.loop { state:=.exhausted,pending:=jmp q,fn,tmps,params:=ps,assign,body,defers:=D })) rfl rfl rfl World.putObj_size (fun k hk=>World.putObj_heap_other (by rw [<-f1];exact hk))
 simp only
 cases hj:jmp q with
 | none=>rw [hj]at hk hkill;exact hk _ _ ⟨_,hkill⟩
 | some c=>rw [hj]at hk hkill;exact hk _ _ ⟨_,hkill⟩
end
section
variable {P:Program}{C:Ctx}{φ:Nat->Option Blk}{σ:St}{a:Act}{w:World}{o:Oper}
def Qvc (P:Program)(T:TypeId)(i:Nat):Option (Nat×Bool×Nat):=match P.underlying T with
 | some (.struct fs)=>match fs[i]? with
  | some f=>match Qhe P f.type with
   | some g=>match QgV P f.type with
    | some n=>some (f.offset,g,n)
    | none=>none
   | none=>none
  | none=>none
 | _=>none
theorem QB8 {T i off n:Nat}{g:Bool}(h:Qvc P T i=some (off,g,n)):∃(fs:Array Field) (f:Field),P.underlying T=some (.struct fs)/\fs[i]? = some f/\f.offset=off/\Qhe P f.type=some g/\QgV P f.type=some n:=by
 unfold Qvc at h
 split at h
 ·rename_i fs hu
  split at h
  ·rename_i f hf
   split at h
   ·rename_i g' hg
    split at h
    ·rename_i n' hn;cases h;exact⟨fs,f,hu,hf,rfl,hg,hn⟩
    cases h
   cases h
  cases h
 cases h
theorem Stp.field {T i d off n:Nat}{g:Bool}{x:Operand}{cs:List V}{v:V}(ho:o.op=.field T x i)(hd:o.dst=some d)(hn:Nat.ble (d+1) C.n=true)(hx:σ.opd x=some (.agg cs))(hT:Qvc P T i=some (off,g,n))
  (hv:(bif g then some (.agg ((cs.drop off).take n))else cs[off]?)=some v):Stp P C o σ (σ.put d v):=by
 refine Stp.same hd hn fun φ a w hr=>?_
 obtain⟨fs,f,hu,hf,rfl,hg,hsz⟩:=QB8 hT
 obtain⟨xs,he,hs,hc⟩:=(hr.opd hx).agg_inv
 cases g with
 | true=>
  cases hv
  refine⟨.agg (xs.extract f.offset (f.offset+n)),?_,.agg _ _ (by simp;omega) fun j x v hj hv=>?_⟩
  ·simp only [execOp,ho,he,Instr.field,Sem.run_bind,run_underlying hu,Result.andThen_ok,hf,part,asAgg,Sem.run_pure,Qrt hg,if_true,Qtp hsz]
  rw [Array.getElem?_extract]at hj
  split at hj
  ·rw [QbU]at hv
   split at hv
   ·rw [Qhs]at hv;exact hc _ x v hj hv
   cases hv
  cases hj
 | false=>
  simp only [cond_false]at hv
  have hlt:f.offset<xs.size:=by rw [hs];exact(Q2.1 hv).1
  refine⟨xs[f.offset],?_,hc _ _ v (QfY hlt) hv⟩
  simp [execOp,ho,he,Instr.field,Sem.run_bind,run_underlying hu,hf,part,asAgg,Qrt hg,hlt]
theorem QCV : ∀(ms:List (Option Nat)) (cs:List V),(Qeb ms cs).length=cs.length:=by
 intro ms
 induction ms with
 | nil=>intro cs;cases cs<;>rfl
 | cons m ms ih=>intro cs;cases cs with
  | nil=>rfl
  | cons c cs=>simp [Qeb,ih]
theorem Dat.den1 {I:Nat->Prop}{w:World}{x:Value}{v:V}{m:Option Nat}(h:Dat I w x v):Dat I w x (Vm.den1 m v):=by
 unfold Vm.den1
 split
 ·cases h;exact .sl0 _ _ _
 exact h
theorem QDX {m:Option Nat}{v:V}(h:v.one=true):(Vm.den1 m v).one=true:=by
 unfold Vm.den1
 split
 ·rfl
 exact h
theorem R.denilA {b z:Nat}{rs:List (List V)}{ms:List (Option Nat)}(hb:look σ.hp b=some (.arr z rs))(h:R C σ a w):R C (σ.set b (.arr z (rs.map (Qeb ms)))) a w:=by
 obtain⟨φ,hr⟩:=h
 have hden:∀(ms:List (Option Nat)) (r:List V),(∀v∈r,v.one=true)->∀v∈Qeb ms r,v.one=true:=by
  intro ms
  induction ms with
  | nil=>intro r hr;cases r<;>exact hr
  | cons m ms ih=>intro r hr;cases r with
   | nil=>exact hr
   | cons c r=>
    intro v hv
    rcases Qbm.1 hv with rfl | hv
    ·exact QDX (hr c QbE)
    exact ih r (fun v hv=>hr v (Qca _ hv)) v hv
 by_cases hne:rs=[]
 ·subst hne
  exact⟨φ,hr.sayOb (ob':=.arr z []) hb (fun _ _ h=>h) (.inl rfl)⟩
 refine⟨φ,hr.sayOb hb (fun B hB hrep=>?_) (.inr fun e=>hne e)⟩
 obtain⟨h1,h2,h3,cs,E,h4,h5,h6⟩:=hrep
 refine⟨h1,by simpa using h2,fun r hr'=>?_,cs,E,h4,h5,fun i r hi j v hj=>?_⟩
 ·obtain⟨r0,hr0,rfl⟩:=QbF.1 hr'
  exact⟨by rw [QCV];exact(h3 r0 hr0).1,hden _ _ (h3 r0 hr0).2⟩
 rw [Qa0]at hi
 obtain⟨r0,hi0,rfl⟩:=Qa1.1 hi
 obtain⟨m,v',hv',rfl⟩:=Qp6 _ _ j v hj
 obtain⟨x,hx,hD⟩:=h6 i r0 hi0 j v' hv'
 exact⟨x,hx,hD.den1⟩
theorem AK.denilA {Q:Exit->St->Prop}{pt:Pt}{ks:List Fr}{b z:Nat}{rs us:List (List V)}(ms:List (Option Nat))(hb:look σ.hp b=some (.arr z rs))(he:rs.map (Qeb ms)=us)(k:AK P C Q pt ks (σ.set b (.arr z us))):AK P C Q pt ks σ:=by
 subst he
 exact AK.weaken (fun a w h=>R.denilA hb h) k
theorem Qx3 {α:Type}{f:α->List V}{n:Nat}{x:α}{r:List V}{ms:List (Option Nat)}(h:Qeb ms r=f x):(List.replicate n r).map (Qeb ms)=(List.replicate n x).map f:=by simp [h]
end
theorem QE2 {p:Prop}{f:Code->Prop}{q:Nat}(h:(q==0)=true)(k:p):atJ p f (jmp q):=by rw [eq_of_beq h];exact k
theorem QF8 {p:Prop}{f:Code->Prop}{q:Nat}(h:(q==2)=true)(k:f .ret):atJ p f (jmp q):=by rw [eq_of_beq h];exact k
def rfs : Code->List (Array Tmp×Code×Code)
 | .seq x y=>rfs x++rfs y
 | .cond _ x y=>rfs x++rfs y
 | .block _ x=>rfs x
 | .loop x=>rfs x
 | .rangeFunc _ ps a b=>[(ps,a,b)]
 | _=>[]
def QE3 (f:Func)(k fn:Nat):Qhw:=match f.body with
 | some c=>match (rfs c)[k]? with
  | some (ps,a,b)=>⟨fn,ps,a,b⟩
  | none=>⟨fn,#[],.skip,.skip⟩
 | none=>⟨fn,#[],.skip,.skip⟩
def yV (P:Program)(σ:St)(l d:Nat)(K:Qhw)(vs:List V)(M N:List (Nat×Nat))(dead:List Nat)(ms:List Qfq)(outs:List (Nat×Ob))(r:V):Option (St×Prop):=
 bif Qec σ M N dead outs&&QhR (M.map Prod.fst)&&QhR (N.map Prod.fst)then match Qm5 (bkM M) ms vs with
  | some us=>match Qjl (bkM M) (look σ.hp) M with
   | some hsC=>match Qjl (bkM N) (look outs) N with
    | some hsN=>match trV (bkM N) r with
     | some r'=>some ((σ.after dead hsN).put d r',Qox P l K us hsC (Gives r outs))
     | none=>none
    | none=>none
   | none=>none
  | none=>none
 else none
section
variable {P:Program}{C:Ctx}{σ σ':St}{o:Oper}
theorem Stp.yieldV {d b l:Nat}{K:Qhw}{cs:List V}{q:Nat}{x:Operand}{ags:Array Operand}{ts:Array TypeId}{M N:List (Nat×Nat)}{dead:List Nat}{outs:List (Nat×Ob)}{vs us:List V}{ms:List Qfq}{r:V}{φ:Prop}(ho:o.op=.call { callee:=.value x,args:=ags,argTypes:=ts })
  (hx:σ.opd x=some (.clo (.yield l) [] [])) (hlp:look σ.hp b=some (.lp l K cs q)) (hq:q=0) (ha:σ.opsV ags.toList=some vs) (hps:vs.length=K.ps.size) (hd:o.dst=some d) (hn:Nat.ble (d+1) C.n=true) (hpg:C.pg P)
  (hu:Qx2 cs K.ps.toList vs=us) (e:yV P σ l d K us M N dead ms outs r=some (σ',φ)) (hφ:φ):Stp P C o σ σ':=by
 unfold yV at e
 replace e:=Qag e;obtain⟨e1,e⟩:=e
 simp only [QA]at e1
 obtain⟨⟨h1,h2⟩,h3⟩:=e1
 have h2:=Qc5.1 h2
 have h3:=Qc5.1 h3
 have inj:Qiq M=true/\Qiq N=true:=by
  simp only [Qec,QA]at h1
  exact⟨h1.1.1.1,h1.1.1.2⟩
 have mM:∀a b,bkM M a=some b->look M b=some a:=fun a b h=>Qb1 inj.1 (QgI h) h2
 have mN:∀a b,bkM N a=some b->look N b=some a:=fun a b h=>Qb1 inj.2 (QgI h) h3
 split at e
 ·rename_i us hus
  split at e
  ·rename_i hsC hC
   split at e
   ·rename_i hsN hN
    split at e
    ·rename_i r' hr
     cases e
     subst hu
     exact Stp.yield ho hx hlp hq ha hps hd hn hpg h1 h2 (Qjd mM hus) (Qdz mM hC) hφ (Qdz mN hN) (QmQ mN hr)
    cases e
   cases e
  cases e
 cases e
end
section
variable {P:Program}{C:Ctx}{φ:Nat->Option Blk}{σ:St}{a:Act}{w:World}{o:Oper}
theorem Que {zc:Array Value}{z m i:Nat}(hz:zc.size=z)(h0:0<z)(h:i<m*z):(Builtin.zeroCells zc m).toList[i]? = zc[i % z]? := by
 have h2:i % z<zc.size:=by rw [hz];exact Nat.mod_lt _ h0
 simp only [Builtin.zeroCells,hz,Array.toList_map,Array.toList_range,Qa0,List.getElem?_range h,Qgn,Array.getElem!_eq_getD,QpZ,QfY h2,Option.getD_some]
theorem RR.clearTail {b n l z e:Nat}{rs:List (List V)}{zs:List V}{zv:Value}{B:Blk}(hr:RR C φ σ a w)(hb:look σ.hp b=some (.arr z rs))(hrn:rs.length=n)(hB:φ b=some B)(hzs:zv.cells.toList.map QgG=zs)(hzl:zs.length=z)(h0:0<z)(hzo:zs.all V.one=true)
  (hln:l<=n):∃w',(storeCells ⟨B.b,B.off+l*z,none⟩ (Builtin.zeroCells zv.cells (n-l)).toList).run P w=.ok () w'/\RR C φ (σ.set b (.arr z (rs.take l++List.replicate (n-l) zs))) a w':=by
 obtain⟨hz,hrl,hok,xs,E,e1,e2,e3⟩:=hr.block hB hb
 subst hz
 have hcs:zv.cells.size=B.z:=by rw [<-hzl,<-hzs];simp
 rw [Qad]at hzo
 have hlen:(Builtin.zeroCells zv.cells (n-l)).toList.length=(n-l)*B.z:=by simp [Builtin.zeroCells,hcs]
 have hmul:l*B.z+(n-l)*B.z=n*B.z:=by rw [<-Qdl];congr 1;omega
 have hnc:n*B.z<=B.cap*B.z:=Qdm _ (by omega)
 have hone:∀v∈(Builtin.zeroCells zv.cells (n-l)).toList,v.oneCell'=true:=by
  intro v hv
  obtain⟨i,hi⟩:=Qmd.1 hv
  have hil:i<(n-l)*B.z:=by rw [<-hlen];exact(Q2.1 hi).1
  rw [Que hcs h0 hil]at hi
  have hm:(QgG v)∈zs:=by rw [<-hzs];exact List.mem_map_of_mem (QwY.2 (Array.mem_of_getElem? hi))
  exact((Rep.dat (φ:=φ) (I:=fun _=>True) (w:=w) (Dat.const v)).oneCell (hzo _ hm)).2
 generalize hZ:(Builtin.zeroCells zv.cells (n-l)).toList=Z at hlen hone
 have hrun:=run_storeCells_at P B.b (B.off+l*B.z) E Z 0 xs w e1 (by rw [hlen];omega) hone
 simp only [QmY]at hrun
 refine⟨_,hrun,?_⟩
 have hl1:(xs.toList.take (B.off+l*B.z)++Z++xs.toList.drop (B.off+l*B.z+Z.length)).length=xs.size:=by simp [hlen];omega
 refine hr.write hB rfl rfl rfl (by simp) (fun k hk=>setRow_other w B.b k _ hk) ⟨rfl,by simp;omega,?_,_,E,setRow_heap w B.b xs _ E _ e1,?_,?_⟩
 ·intro r' hr'
  rcases Qcm.1 hr' with h | h
  ·exact hok r' (QfC h)
  rw [Qma h];exact⟨hzl,hzo⟩
 ·simp only [List.size_toArray,hl1];exact e2
 have hI:∀k,Imm C φ w k->Imm C φ (w.setRow B.b (xs.toList.take (B.off+l*B.z)++Z++xs.toList.drop (B.off+l*B.z+Z.length)).toArray) k/\
   (w.setRow B.b (xs.toList.take (B.off+l*B.z)++Z++xs.toList.drop (B.off+l*B.z+Z.length)).toArray).heap[k]? = w.heap[k]?:=
  fun k hk=>⟨⟨by simpa using hk.1,hk.2⟩,setRow_other w B.b k _ fun e=>hk.2.2 b B hB (.inl e)⟩
 intro i r hi j v hj
 by_cases hil:i<l
 ·rw [Qbw (by simp;omega),QbU,if_pos hil]at hi
  obtain⟨y,hy,hD⟩:=e3 i r hi j v hj
  have hjz:j<B.z:=by rw [<-(hok r (Qae hi)).1];exact(Q2.1 hj).1
  have hlt:i*B.z+j<l*B.z:=by
   have:(i+1)*B.z<=l*B.z:=Qdm _ hil
   rw [Qdl]at this;omega
  refine⟨y,?_,hD.mono hI⟩
  have hyl:=(Qin.1 hy).1
  rw [QkT,Qgl,Qbw (by simp;omega),QbU,if_pos (by omega)];simpa using hy
 rw [QcA (by simp;omega)]at hi
 simp only [Qe0,hrn,Nat.min_eq_left hln]at hi
 rw [List.getElem?_replicate]at hi
 split at hi
 ·rename_i hin
  cases hi
  have hjz:j<B.z:=by rw [<-hzl];exact(Q2.1 hj).1
  rw [<-hzs,Qa0]at hj
  obtain⟨y,hy,rfl⟩:=Qa1.1 hj
  refine⟨y,?_,Dat.const y⟩
  have hidx:(i-l)*B.z+j<(n-l)*B.z:=by
   have:(i-l+1)*B.z<=(n-l)*B.z:=Qdm _ hin
   rw [Qdl]at this;omega
  have hsum:i*B.z=l*B.z+(i-l)*B.z:=by rw [<-Qdl];congr 1;omega
  rw [QkT,Qgl,QcA (by simp;omega),Qbw (by simp [hlen];omega)]
  have:B.off+(i*B.z+j)-(xs.toList.take (B.off+l*B.z)).length=(i-l)*B.z+j:=by simp;omega
  rw [this,<-hZ,Que hcs h0 hidx]
  have hm:((i-l)*B.z+j) % B.z=j:=by rw [Nat.add_comm,Nat.add_mul_mod_self_right,Nat.mod_eq_of_lt hjz]
  rw [hm];simpa using hy
 cases hi
theorem AK.clearTail {Q:Exit->St->Prop}{ks:List Fr}{ops:Array Oper}{rest:List Oper}{o1 o2:Oper}{T d b n l z e by_:Nat}{x lo:Operand}{rs us:List (List V)}{zs:List V}(hg1:o1.guard=none)(hg2:o2.guard=none)
  (ho1:o1.op=.slice T x (some lo) none none) (hd1:o1.dst=some d) (ho2:o2.op=.call { callee:=.builtin .clear,args:=#[.tmp d],argTypes:=#[T] }) (hd2:o2.dst=none) (hn:Nat.ble (d+1) C.n=true)
  (hx:σ.opd x=some (.own b n)) (hb:look σ.hp b=some (.arr z rs)) (hrn:rs.length=n) (hT:QaA P T=some (e,z,by_)) (hz:QaC P e=some zs) (hzl:zs.length=z) (h0:Nat.ble 1 z=true) (hzo:zs.all V.one=true) (hl:Bnd σ 0 (some lo) l) (hln:l<=n)
  (hu:rs.take l++List.replicate (n-l) zs=us) (k:AK P C Q (.o ops rest) ks ((σ.set b (.arr z us)).put d .J)):AK P C Q (.o ops (o1::o2::rest)) ks σ:=by
 intro a w ⟨φ,hr⟩
 subst hu
 have h0:=Qcb h0
 obtain⟨hu,i,hi',hiz,_⟩:=Qc4 hT
 obtain⟨i',zv,hi2,hz',hzs⟩:=Qii hz
 have key:∃x1 w',(execOp a.eval o1).run P w=.ok (.value x1) w/\(Builtin.clear_ #[T] o2.type #[x1]).run P w=.ok (.tuple #[]) w'/\RR C φ (σ.set b (.arr z (rs.take l++List.replicate (n-l) zs))) a w':=by
  rcases(hr.opd hx).own_inv with⟨he,rfl⟩|⟨B,hB,hcap,he⟩
  ·have l0:l=0:=by omega
   subst l0
   have:rs=[]:=QpG.1 hrn
   subst this
   refine⟨.slice none 0 0,w,?_,?_,hr.sayOb (ob':=.arr z []) hb (fun _ _ h=>h) (.inl rfl)⟩
   ·have hbn:=QkX (P:=P) (b:=true) hr hl (.no (dflt:=0)) (by omega) (by omega:0<=0)
    simp only [Qgn,Qtn]at hbn
    simp [execOp,ho1,he,Instr.sliceAt,Instr.slice,run_underlying hu,hbn,sizeOf,typeInfo,hi']
   simp [Builtin.clear_,run_underlying hu]
  have hbn:=QkX (P:=P) (b:=true) hr hl (.no (dflt:=n)) hln (by omega:n<=B.cap)
  simp only [Qgn,Qtn]at hbn
  by_cases hcl:B.cap=l
  ·have hln2:n-l=0:=by omega
   refine⟨.slice (some ⟨B.b,B.off,none⟩) 0 0,w,?_,?_,?_⟩
   ·simp only [execOp,ho1,he,Instr.sliceAt,Instr.slice,run_underlying hu,hbn,sizeOf,typeInfo,hi',Sem.run_bind,Sem.run_pure,run_program,Result.andThen_ok,Qgn,Qtn]
    simp [hcl];omega
   ·simp [Builtin.clear_,run_underlying hu]
   rw [hln2,List.replicate_zero,List.append_nil,Qip (by omega)]
   exact hr.sayOb hb (fun _ _ h=>h) (.inl rfl)
  obtain⟨w',hw,hr'⟩:=hr.clearTail (P:=P) (l:=l) (e:=e) hb hrn hB hzs hzl h0 hzo hln
  refine⟨.slice (some ⟨B.b,B.off+l*z,none⟩) (n-l) (B.cap-l),?_⟩
  have hex:(execOp a.eval o1).run P w=.ok (.value (.slice (some ⟨B.b,B.off+l*z,none⟩) (n-l) (B.cap-l))) w:=by
   simp only [execOp,ho1,he,Instr.sliceAt,Instr.slice,run_underlying hu,hbn,sizeOf,typeInfo,hi',Sem.run_bind,Sem.run_pure,run_program,Result.andThen_ok,Qgn,Qtn,if_neg hcl,hiz,Addr.add_lit]
  by_cases hnl:n-l=0
  ·refine⟨w,hex,?_,?_⟩
   ·rw [hnl];simp [Builtin.clear_,run_underlying hu]
   rw [hnl,List.replicate_zero,List.append_nil,Qip (by omega)]
   exact hr.sayOb hb (fun _ _ h=>h) (.inl rfl)
  refine⟨w',hex,?_,hr'⟩
  obtain⟨m,hm⟩:∃m,n-l=m+1:=⟨n-l-1,by omega⟩
  rw [hm]at hw ⊢
  rw [hi2]at hi';cases hi'
  simp only [Builtin.clear_,Sem.run_bind,run_underlying hu,Result.andThen_ok,Sem.run_pure,zeroValue,typeInfo,run_program,hi2,hz',QkT,List.getElem?_cons_zero]
  simp [hw,hz']
 obtain⟨x1,w',hex,hcl,hr'⟩:=key
 have hput:∀t,(a.put (some d) x1).tmps[t]? = if t=d then(if d<a.tmps.size then some x1 else none)else a.tmps[t]? := fun t=>by
  simp only [Act.put,Qse]
  by_cases e:d=t
  ·subst e;simp
  simp [e,Ne.symm e]
 have hev:(a.put (some d) x1).eval (.tmp d)=x1:=by
  have hlt:d<a.tmps.size:=by rw [hr.tmps];exact Qaq hn
  simp [Act.eval,Act.put,QpZ,Qse,hlt]
 have hex2:(execOp (a.put (some d) x1).eval o2).run P w=.ok (.value (.tuple #[])) w':=by
  simp only [execOp,ho2,resolve,invoke,builtin,Sem.run_bind,Sem.run_pure,Result.andThen_ok,List.map_toArray,Qgm,List.map_nil,hev,hcl]
 show wpListIn C.F 0 P ops (up C (unw P C Q ks)) (o1::o2::rest) a w
 simp only [wpListIn,Region.wanted,hg1,if_true]
 refine⟨fun _ _=>trivial,?_⟩
 rw [QxP hex,Oper.uponIn_value,hd1]
 simp only [wpListIn,Region.wanted,hg2,if_true]
 refine⟨fun _ _=>trivial,?_⟩
 rw [QxP hex2,Oper.uponIn_value,hd2]
 exact k _ _ ⟨φ,hr'.put (Qaq hn) (.dat (.J x1))⟩
theorem QE4 {α:Type}{f:α->List V}{e:List α}{l k:Nat}{zs:List V}{x:α}{ms:List (Option Nat)}(h1:∀y,Qeb ms (f y)=f y)(h2:Qeb ms zs=f x):((e.map f).take l++List.replicate k zs).map (Qeb ms)=(e.take l++List.replicate k x).map f:=by
 have h3:Qeb ms∘f=f:=funext h1
 simp [List.map_take,h2,h3]
theorem QCW {α:Type}{b l:Nat}{e:List α}{x:α}(h:l<=e.length):V.own b e.length=V.own b (e.take l++List.replicate (e.length-l) x).length:=by
 congr 1;simp;omega
end
end Go.Vm
namespace Go.Vm
open Go Go.RowKit Go.Proofs Go.Sort Go.Shelf
def QkZ (l:List Int):List Int:=l.mergeSort fun x y=>decide (x<=y)
def Qsl (x:Int):List V:=[V.i .i64 x]
theorem QzH (l:List Int):(QkZ l).length=l.length:=List.length_mergeSort ..
theorem QBi {P:Program}{ρ:Ren}(Ly:Lays.n189 P ρ)(zs:List Int)(hz:zs.length<4611686018427387904):
  Qc P (ρ.f 189) [.own 617 zs.length] [(617,.arr 1 (zs.map Qsl))] (Gives (.tup []) [(617,.arr 1 ((QkZ zs).map Qsl))]):=by
 intro S φ w vals hi _
 have hs:=hi.size
 obtain⟨v0,hv0⟩:∃v0,vals=#[v0]:=by
  obtain⟨l⟩:=vals
  match l,hs with
  | [x],_=>exact⟨x,rfl⟩
 subst hv0
 have ha:=hi.args 0 v0 _ rfl rfl
 rcases ha.own_inv with⟨hx,hn⟩|⟨B,hB,hn,hx⟩
 ·have h0:zs=[]:=List.eq_nil_of_length_eq_zero hn
  subst h0;subst hx
  refine(Any.slices_Sort_int_none Ly none 0 w).mono ?_
  rintro e w' ⟨rfl,rfl⟩
  refine⟨.tuple #[],.tup [],[(617,.arr 1 [])],φ,rfl,⟨rfl,fun c ob h=>by simpa [QkZ] using h⟩,rfl,rfl,rfl,QcR _,fun _ _ _=>rfl,hi.inj,fun o B h=>?_,fun o B k h hk=>?_,fun o B k h hk hlt=>?_,⟨fun o B _ h=>h,fun o ob B _ _ h=>h⟩,.dat (.tup _ _ rfl fun j x v h=>by simp at h),fun o ob h=>?_⟩
  ·obtain⟨_,_,ob,hob⟩:=hi.dom o B h;exact⟨ob,hob⟩
  ·obtain⟨_,h2,_⟩:=hi.dom o B h
   exact⟨(h2 k hk).1,fun _=>⟨o,B,h,hk⟩⟩
  ·obtain⟨h1,_,_⟩:=hi.dom o B h;omega
  have hS:∀k,S k->Aft S φ w' w' k/\w'.heap[k]? = w'.heap[k]? := fun k hk=>⟨⟨hi.lt k hk,fun _=>hk,fun o B h hb=>((hi.dom o B h).2.1 k hb).2 hk⟩,rfl⟩
  rcases hi.heap o ob h with⟨B,hB,hr⟩|hn
  ·exact .inl ⟨B,hB,hr.mono (fun _ _ h=>h) hS fun _ _=>rfl⟩
  exact .inr hn
 subst hx
 have hob:Qb5 φ S w B (.arr 1 (zs.map Qsl)):=by
  rcases hi.heap 617 _ (Qz _ _ _)with⟨B',hB',hr⟩|⟨hn',_⟩
  ·rw [hB]at hB';cases hB';exact hr
  rw [hB]at hn';cases hn'
 obtain⟨hz1,hle,hok,cs,E,hb,hsz,hcell⟩:=hob
 have hlt:B.b<w.heap.size:=((hi.dom _ _ hB).2.1 _ B.self).1
 have hrow:∀(l:List Int) (i:Nat) (x:Int),l[i]? = some x->(l.map Qsl)[i]? = some (Qsl x):=fun l i x h=>by rw [Qa0,h];rfl
 have hc:∀(i:Nat) x,zs[i]? = some x->cs[B.off+i]? = some (.int .i64 x):=fun i x h=>by
  obtain⟨y,hy,hd⟩:=hcell i _ (hrow _ i x h) 0 (.i .i64 x) rfl
  rw [show i*1+0=i by omega]at hy
  rw [hy];cases hd;rfl
 have hH:Holds (Value.int .i64) w B.b B.off zs.toArray:=fun j hj=>by
  have hj':j<zs.length:=by simpa using hj
  have h1:=hc j zs[j] (QH hj')
  have h2:zs.toArray[j]! = zs[j]:=by simp [hj']
  refine⟨?_,?_⟩
  ·rw [h2];simp [World.cell?,hb,h1]
  simp [World.frozen?,hb]
 refine(Any.slices_Sort_int Ly B.b B.off B.cap zs w hH hlt hz).mono ?_
 rintro e w' ⟨rfl,n,os,rfl⟩
 have hh:∀k,k<w.heap.size->(grow (putRow (Value.int .i64) (Sort.ahead w n) B.b B.off (QkZ zs).toArray) os).heap[k]? = (w.heap.modify B.b (onCells (putCells (Value.int .i64) B.off (QkZ zs).toArray)))[k]? := fun k hk=>by
  rw [heap_grow_old _ _ (by rw [size_putRow];exact hk)];rfl
 have ho:∀k,k<w.heap.size->k≠B.b->(grow (putRow (Value.int .i64) (Sort.ahead w n) B.b B.off (QkZ zs).toArray) os).heap[k]? = w.heap[k]? := fun k hk hne=>by
  rw [hh k hk,Array.getElem?_modify,if_neg (Ne.symm hne)]
 have hsize:w.heap.size<=(grow (putRow (Value.int .i64) (Sort.ahead w n) B.b B.off (QkZ zs).toArray) os).heap.size:=by
  rw [size_grow,size_putRow];exact Nat.le_add_right _ _
 have hme:(grow (putRow (Value.int .i64) (Sort.ahead w n) B.b B.off (QkZ zs).toArray) os).heap[B.b]? = some (.cells (putCells (Value.int .i64) B.off (QkZ zs).toArray cs) E (0,0)):=by
  rw [hh _ hlt,Array.getElem?_modify,if_pos rfl,hb];rfl
 have hall:∀o' B',φ o'=some B'->o'=617:=fun o' B' h'=>by
  obtain⟨_,_,ob,hob⟩:=hi.dom o' B' h'
  by_cases e:617=o'
  ·exact e.symm
  rw [Qu _ _ e]at hob;cases hob
 refine⟨.tuple #[],.tup [],[(617,.arr 1 ((QkZ zs).map Qsl))],φ,rfl,⟨rfl,fun c ob h=>h⟩,rfl,rfl,rfl,hsize,fun k hk hno=>?_,hi.inj,fun o B h=>?_,fun o B k h hk=>?_,fun o B k h hk hl=>?_,⟨fun o B _ h=>h,fun o ob B _ _ h=>h⟩,.dat (.tup _ _ rfl fun j x v h=>by simp at h),fun o ob h=>?_⟩
 ·exact ho k hk fun e=>hno 617 B hB (e▸B.self)
 ·rw [hall o B h];exact⟨_,Qz _ _ _⟩
 ·obtain⟨_,h2,_⟩:=hi.dom o B h
  exact⟨Qhu (h2 k hk).1 hsize,fun _=>⟨o,B,h,hk⟩⟩
 ·obtain⟨h1,_,_⟩:=hi.dom o B h;omega
 by_cases e:617=o
 ·subst e
  rw [Qz]at h;cases h
  refine .inl ⟨B,hB,hz1,?_,?_,_,E,hme,?_,?_⟩
  ·rw [QpH,QzH];rw [QpH]at hle;exact hle
  ·intro r hr;obtain⟨x,_,rfl⟩:=QbF.1 hr
   exact⟨rfl,fun v hv=>by simp [Qsl]at hv;subst hv;rfl⟩
  ·simpa [putCells] using hsz
  intro i r hi' j v hj
  rw [Qa0]at hi'
  obtain⟨x,hx,rfl⟩:=Qa1.1 hi'
  have hil:i<(QkZ zs).length:=(Q2.1 hx).1
  have hil':i<zs.length:=by rw [QzH]at hil;exact hil
  match j,hj with
  | 0,hj=>
   cases hj
   refine⟨.int .i64 x,?_,.i _ _⟩
   rw [show i*1+0=i by omega]
   have h1:=hc i zs[i] (QH hil')
   have h2:(QkZ zs).toArray[i]! = x:=by
    have:=Q2.1 hx
    obtain⟨h3,h4⟩:=this
    simp [h3,h4]
   simp only [putCells,Array.getElem?_mapIdx,h1,Qgn]
   rw [if_pos ⟨by omega,by simp;omega⟩,show B.off+i-B.off=i by omega,h2]
  | j+1,hj=>simp [Qsl]at hj
 rw [Qu _ _ e]at h;cases h
def Qy4 (x:Int):List Int->List Int
 | []=>[x]
 | y::l=>bif decide (x<=y)then x::y::l else y::Qy4 x l
def QeD : List Int->List Int
 | []=>[]
 | x::l=>Qy4 x (QeD l)
theorem QzI (x:Int)(l:List Int):(Qy4 x l).Perm (x::l):=by
 induction l with
 | nil=>exact .refl _
 | cons y l ih=>
  rw [Qy4]
  cases decide (x<=y)with
  | true=>exact .refl _
  | false=>exact(ih.cons y).trans (.swap x y l)
theorem QEA {x:Int}{l:List Int}(h:l.Pairwise (·<=·)):(Qy4 x l).Pairwise (·<=·):=by
 induction l with
 | nil=>exact List.pairwise_singleton _ _
 | cons y l ih=>
  obtain⟨h1,h2⟩:=List.pairwise_cons.1 h
  rw [Qy4]
  cases c:decide (x<=y)with
  | true=>
   have c:=Qak c
   refine List.pairwise_cons.2 ⟨fun z hz=>?_,h⟩
   rcases Qbm.1 hz with rfl | hz
   ·exact c
   have:=h1 z hz;omega
  | false=>
   have c:=of_decide_eq_false c
   refine List.pairwise_cons.2 ⟨fun z hz=>?_,ih h2⟩
   rcases Qbm.1 ((QzI x l).mem_iff.1 hz)with rfl | hz
   ·omega
   exact h1 z hz
theorem Qx4 (l:List Int):(QeD l).Perm l:=by
 induction l with
 | nil=>exact .refl _
 | cons x l ih=>exact(QzI x _).trans (ih.cons x)
theorem QBj (l:List Int):(QeD l).Pairwise (·<=·):=by
 induction l with
 | nil=>exact List.Pairwise.nil
 | cons x l ih=>exact QEA ih
theorem QtM (l:List Int):QeD l=l.mergeSort fun x y=>decide (x<=y):=by
 refine List.Perm.eq_of_pairwise (le:=fun x y:Int=>x<=y) (fun a b _ _ h1 h2=>by omega) (QBj l) ?_ ((Qx4 l).trans (List.mergeSort_perm l _).symm)
 exact(List.pairwise_mergeSort (le:=fun x y:Int=>decide (x<=y)) (fun a b c h1 h2=>by simp at *;omega) (fun a b=>by simp;omega) l).imp fun h=>by simpa using h
theorem Qik (l:List Int):(QeD l).length=l.length:=(Qx4 l).length_eq
theorem QBk {P:Program}{ρ:Ren}(Ly:Lays.n189 P ρ)(zs:List Int)(hz:zs.length<4611686018427387904):
  Qc P (ρ.f 189) [.own 617 zs.length] [(617,.arr 1 (zs.map Qsl))] (Gives (.tup []) [(617,.arr 1 ((QeD zs).map Qsl))]):=by
 have h:=QBi Ly zs hz
 rw [show QkZ zs=QeD zs from(QtM zs).symm]at h
 exact h
def QAG (s:ByteArray):Bool:=decide (s.size<4294967281)&&s.data.toList.all fun b=>decide (b.toNat<128)
def QgK (s:ByteArray):List ByteArray:=(Lib.fields s.data.toList).map fun l=>⟨l.toArray⟩
theorem QzW {P:Program}{ρ:Ren}(Ly:Lays.n157 P ρ)(hi9:(P.info? (ρ.t 9)).map (fun i=>(i.zero,i.size,i.bytes))=some (some (.string ByteArray.empty),1,16))(hg:P.globalNamed "strings.asciiSpace" = some (ρ.g 0))(s:ByteArray)(hs:QAG s=true):
  Qc P (ρ.f 157) [.s s] [] (Gives (.own 600 (QgK s).length) [(600,.arr 1 ((QgK s).map fun x=>[V.s x]))]):=by
 intro S φ w vals hi hG
 have hsz:=hi.size
 obtain⟨v0,hv0⟩:∃v0,vals=#[v0]:=by
  obtain⟨l⟩:=vals
  match l,hsz with
  | [x],_=>exact⟨x,rfl⟩
 subst hv0
 have ha:=(hi.args 0 v0 _ rfl rfl).s_inv
 subst ha
 unfold QAG at hs
 rw [QA,decide_eq_true_iff,Qad]at hs
 obtain⟨hs1,hs2⟩:=hs
 obtain⟨_,hl,hT⟩:=hG _ hg
 have hno:∀o B,φ o≠some B:=fun o B h=>by obtain⟨_,_,ob,hob⟩:=hi.dom o B h;cases hob
 refine(Any.strings_Fields_core Ly hi9 s w hs1 (fun j b hb=>by simpa using hs2 b (Qae hb)) hT).mono ?_
 rintro e w' ⟨rfl,rfl⟩
 have hlen:(Lib.fields s.data.toList).length=(QgK s).length:=by unfold QgK;simp
 rw [hlen]
 generalize hO:Obj.cells ((Lib.fields s.data.toList).map fun l=>Value.string ⟨l.toArray⟩).toArray (ρ.t 9)=O
 have hme:(w.alloc O).heap[w.heap.size]? = some O:=World.alloc_heap_new _ _
 have hold:∀k,k<w.heap.size->(w.alloc O).heap[k]? = w.heap[k]? := fun k hk=>Below.heap_alloc w O k hk
 have hsize:(w.alloc O).heap.size=w.heap.size+1:=by simp
 have hφ:∀o B,(ext (fun _=>none) 600 ⟨w.heap.size,(QgK s).length,1,[],0⟩) o=some B->o=600/\B=⟨w.heap.size,(QgK s).length,1,[],0⟩:=fun o B h=>by
  unfold ext at h
  split at h
  ·rename_i e;exact⟨e,(Option.some.inj h).symm⟩
  cases h
 have hhas:∀k,(⟨w.heap.size,(QgK s).length,1,[],0⟩:Blk).has k->k=w.heap.size:=fun k hk=>QpY hk
 refine⟨_,.own 600 (QgK s).length,[(600,.arr 1 ((QgK s).map fun x=>[V.s x]))],ext (fun _=>none) 600 ⟨w.heap.size,(QgK s).length,1,[],0⟩,rfl,⟨rfl,fun c ob h=>h⟩,rfl,rfl,rfl,by rw [hsize];omega,fun k hk _=>hold k hk,fun o o' B B' k h1 h2 _ _=>by rw [(hφ o B h1).1,(hφ o' B' h2).1],fun o B h=>?_,fun o B k h hk=>?_,fun o B k h hk _=>?_,⟨fun o B h1 h2=>by obtain⟨rfl,_⟩:=hφ o B h2;omega,fun o ob B _ h2 h3=>absurd h3 (hno o B)⟩,.own _ _ _ (Q9 _ _ _) (QcR _),fun o ob h=>?_⟩
 ·rw [(hφ o B h).1];exact⟨_,Qz _ _ _⟩
 ·obtain⟨_,rfl⟩:=hφ o B h
  have:=hhas k hk
  rw [hsize];exact⟨by omega,fun h=>by omega⟩
 ·obtain⟨_,rfl⟩:=hφ o B h
  have:=hhas k hk;omega
 by_cases e:600=o
 ·subst e
  rw [Qz]at h;cases h
  refine .inl ⟨_,Q9 _ _ _,rfl,by simp,fun r hr=>?_,_,_,by rw [hme,<-hO],by rw [<-hlen];simp,fun i r hi' j v hj=>?_⟩
  ·obtain⟨x,_,rfl⟩:=QbF.1 hr
   exact⟨rfl,fun v hv=>by simp at hv;subst hv;rfl⟩
  rw [Qa0]at hi'
  obtain⟨x,hx,rfl⟩:=Qa1.1 hi'
  match j,hj with
  | 0,hj=>
   cases hj
   refine⟨.string x,?_,.s _⟩
   unfold QgK at hx
   rw [Qa0]at hx
   obtain⟨l,hl',rfl⟩:=Qa1.1 hx
   simp [hl']
  | j+1,hj=>simp at hj
 rw [Qu _ _ e]at h;cases h
section
variable {P:Program}{C:Ctx}{σ:St}{o:Oper}
theorem Stp.storeNil {T b i off z zz:Nat}{x y:Operand}{rs rs':List (List V)}{r:List V}(ho:o.op=.store T x y)(hd:o.dst=none)(hx:σ.opd x=some (.loc b i off))
  (hb:look σ.hp b=some (.arr z rs)) (hi:rs[i]? = some r) (hy:σ.opd y=some (.lit (.slice none 0 0))) (hs:QgV P T=some 1) (hle:Nat.ble (off+1) z=true) (he:rs.set i (QcK r off [.sl zz []])=rs'):Stp P C o σ (σ.set b (.arr z rs')):=
 Stp.storeAV (v:=.sl zz []) ho hd hx hb hi (fun φ a w hr=>by rw [(hr.opd hy).lit_inv];exact .dat (.sl0 none 0 zz)) (.inl rfl) hs rfl rfl rfl hle he
theorem Stp.max3 {d:Nat}{x y z:Operand}{k:IntKind}{m n q:Int}{ts:Array TypeId}(ho:o.op=.call { callee:=.builtin .max,args:=#[x,y,z],argTypes:=ts })(hd:o.dst=some d)(hn:Nat.ble (d+1) C.n=true)
  (hx:σ.opd x=some (.i k m)) (hy:σ.opd y=some (.i k n)) (hz:σ.opd z=some (.i k q)):Stp P C o σ (σ.put d (.i k (Vm.max2 (Vm.max2 m n) q))):=by
 refine Stp.same hd hn fun φ a w hr=>⟨.int k (Vm.max2 (Vm.max2 m n) q),?_,.dat (.i _ _)⟩
 simp [execOp,ho,(hr.opd hx).i_inv,(hr.opd hy).i_inv,(hr.opd hz).i_inv,resolve,invoke,builtin,Builtin.max_,Builtin.max2,Vm.max2]
end
end Go.Vm
namespace Go.Vm
open Go Go.RowKit
def Cl (w:World)(cs:List Value)(vs:List V):Prop:=cs.length=vs.length/\∀(j:Nat) c v,cs[j]? = some c->vs[j]? = some v->Dat (fun k=>k<w.heap.size) w c v
theorem Cl.nil {w:World}:Cl w [] []:=⟨rfl,fun j c v h _=>by simp at h⟩
theorem Cl.one {w:World}{c:Value}{v:V}(h:Dat (fun k=>k<w.heap.size) w c v):Cl w [c] [v]:=⟨rfl,fun j c' v' h1 h2=>by
 match j with
 | 0=>simp at h1 h2;subst h1;subst h2;exact h
 | j+1=>simp at h1⟩
theorem Cl.append {w:World}{a b:List Value}{u v:List V}(h1:Cl w a u)(h2:Cl w b v):Cl w (a++b) (u++v):=by
 refine⟨by simp [h1.1,h2.1],fun j c x hc hx=>?_⟩
 by_cases hj:j<a.length
 ·rw [Qbw hj]at hc
  rw [Qbw (by rw [<-h1.1];exact hj)]at hx
  exact h1.2 j c x hc hx
 rw [QcA (by omega)]at hc
 rw [QcA (by rw [<-h1.1];omega)]at hx
 rw [<-h1.1]at hx
 exact h2.2 _ c x hc hx
def Rd {H α:Type}(enc:TypeId×Value->H)(P:Program)(w:World)(N:Nat)(t:TypeId)(row:α->List V)(wf:α->DataW H->Prop):Prop:=
 ∀(fuel:Nat) (cs:List Value) (d:DataW H) (ps:List MemPlace),fuel<=N->DataW.trod enc P w 0 (fun _=>true) true fuel t cs=some (d,ps)->∃x,wf x d/\Cl w cs (row x)
def RdF {H α:Type}(enc:TypeId×Value->H)(P:Program)(w:World)(N:Nat)(off tot:Nat)(fs:List (Nat×Nat))(row:α->List V)(wf:α->List (DataW H)->Prop):Prop:=
 ∀(fuel:Nat) (cs:List Value) (xs:List (DataW H×List MemPlace)),fuel<=N->cs.length=off+tot->(fs.mapM fun f=>DataW.trod enc P w 0 (fun _=>true) true fuel f.1 ((cs.drop f.2).take (P.cellsOf f.1)))=some xs->
  ∃x,wf x (xs.map Prod.fst)/\Cl w (cs.drop off) (row x)
section
variable {H:Type}{enc:TypeId×Value->H}{P:Program}{w:World}{N:Nat}{t:TypeId}
theorem Rd.mono {α:Type}{M:Nat}{row:α->List V}{wf:α->DataW H->Prop}(h:Rd enc P w N t row wf)(hM:M<=N):Rd enc P w M t row wf:=fun fuel cs d ps hf e=>h fuel cs d ps (QcB hf hM) e
theorem Rd.zero {α:Type}{row:α->List V}{wf:α->DataW H->Prop}:Rd enc P w 0 t row wf:=fun fuel cs d ps hf e=>by
 have:fuel=0:=by omega
 subst this
 simp [DataW.trod]at e
theorem Rd.map {α β:Type}{row:α->List V}{wf:α->DataW H->Prop}{row':β->List V}{wf':β->DataW H->Prop}(g:α->β)(h:Rd enc P w N t row wf)(hr:∀x,row x=row' (g x))(hw:∀x d,wf x d->wf' (g x) d):Rd enc P w N t row' wf':=fun fuel cs d ps hf e=>by
 obtain⟨x,h1,h2⟩:=h fuel cs d ps hf e
 exact⟨g x,hw x d h1,by rw [<-hr];exact h2⟩
theorem Rd.int {k:IntKind}(ht:P.underlying t=some (.int k)):Rd enc P w N t (fun n:Int=>[V.i k n]) (fun n d=>(Lit.int k n).wf=true/\d=.lit (.int k n)):=by
 intro fuel cs d ps _ e
 cases fuel with
 | zero=>simp [DataW.trod]at e
 | succ fuel=>
  simp only [DataW.trod,ht]at e
  split at e
  all_goals first | (cases e;done) | (rename_i hq;cases hq;done) | skip
  rename_i hq
  cases hq
  split at e
  ·rename_i hc
   obtain⟨rfl,hwf⟩:=hc
   cases e
   exact⟨_,⟨hwf,rfl⟩,Cl.one (.i _ _)⟩
  cases e
theorem Rd.bool (ht:P.underlying t=some .bool):Rd enc P w N t (fun n:Bool=>[V.b n]) (fun n d=>d=.lit (.bool n)):=by
 intro fuel cs d ps _ e
 cases fuel with
 | zero=>simp [DataW.trod]at e
 | succ fuel=>
  simp only [DataW.trod,ht]at e
  split at e
  all_goals first | (cases e;done) | (rename_i hq;cases hq;done) | skip
  cases e
  exact⟨_,rfl,Cl.one (.b _)⟩
theorem Rd.string (ht:P.underlying t=some .string):Rd enc P w N t (fun n:ByteArray=>[V.s n]) (fun n d=>n.size<=maxLen/\d=.lit (.string n.data.toList)):=by
 intro fuel cs d ps _ e
 cases fuel with
 | zero=>simp [DataW.trod]at e
 | succ fuel=>
  simp only [DataW.trod,ht]at e
  split at e
  all_goals first | (cases e;done) | (rename_i hq;cases hq;done) | skip
  split at e
  ·rename_i hc
   cases e
   exact⟨_,⟨hc,rfl⟩,Cl.one (.s _)⟩
  cases e
theorem QE5 {α:Type}{Q:Nat->α->Prop}:∀n:Nat,(∀i,i<n->∃x,Q i x)->∃l:List α,l.length=n/\∀i x,l[i]? = some x->Q i x:=by
 intro n
 induction n with
 | zero=>intro _;exact⟨[],rfl,fun i x h=>by simp at h⟩
 | succ n ih=>
  intro h
  obtain⟨l,h1,h2⟩:=ih fun i hi=>h i (by omega)
  obtain⟨x,hx⟩:=h n (by omega)
  refine⟨l++[x],by simp [h1],fun i y hy=>?_⟩
  by_cases hi:i<l.length
  ·rw [Qbw hi]at hy;exact h2 i y hy
  have:=(Q2.1 hy).1
  simp at this
  have:i=l.length:=by omega
  subst this
  simp at hy;subst hy;rw [h1];exact hx
def wfL {α:Type}(wf:α->DataW H->Prop)(l:List α)(d:DataW H):Prop:=l.length<=maxLen/\((d=.nil/\l=[])\/∃es sp,d=.slice es sp/\es.length=l.length/\∀(i:Nat) x e,l[i]? = some x->es[i]? = some e->wf x e)
theorem Rd.slice {α:Type}{e z:Nat}{row:α->List V}{wf:α->DataW H->Prop}(ht:P.underlying t=some (.slice e))(hz:P.cellsOf e=z)(hz0:0<z)(hrow:∀x,Qhv z (row x))(he:Rd enc P w N e row wf):
  Rd enc P w N t (fun l:List α=>[V.sl z (l.map row)]) (wfL wf):=by
 subst hz
 intro fuel cs d ps hN h
 cases fuel with
 | zero=>simp [DataW.trod]at h
 | succ fuel=>
  simp only [DataW.trod,ht]at h
  split at h
  all_goals first | (cases h;done) | (rename_i hq;cases hq;done) | skip
  ·cases h;exact⟨[],⟨Nat.zero_le _,.inl ⟨rfl,rfl⟩⟩,Cl.one (.sl0 _ _ _)⟩
  rename_i a len cap hq
  cases hq
  split at h
  ·rename_i hc
   obtain⟨_,hlc,hcm⟩:=hc
   obtain⟨elems,hel,h⟩:=QpM.1 h
   obtain⟨rest,_,h⟩:=Qa1.1 h
   have hlen:elems.length=len:=by simpa using mapM_some_length hel
   have hat:∀i,i<len->∃y rc,elems[i]? = some y/\w.cells? 0 (a.add (i*P.cellsOf e)) (P.cellsOf e)=some rc/\DataW.trod enc P w 0 (fun _=>true) true fuel e rc=some y:=fun i hi=>by
    have:=mapM_some_get hel i i (by simp [hi])
    obtain⟨y,hy⟩:∃y,elems[i]? = some y:=⟨_,QH (by omega)⟩
    rw [hy]at this
    obtain⟨rc,h1,h2⟩:=QpM.1 this
    exact⟨y,rc,hy,h1,h2⟩
   obtain⟨l,hl,hQ⟩:=QE5 (Q:=fun i x=>∃y rc,elems[i]? = some y/\w.cells? 0 (a.add (i*P.cellsOf e)) (P.cellsOf e)=some rc/\wf x y.1/\Cl w rc (row x)) len fun i hi=>by
    obtain⟨y,rc,h1,h2,h3⟩:=hat i hi
    obtain⟨x,h4,h5⟩:=he fuel rc y.1 y.2 (by omega) h3
    exact⟨x,y,rc,h1,h2,h4,h5⟩
   have hd:d=.slice (elems.map (·.1)) (rest.map (·.1)):=by cases h;rfl
   refine⟨l,⟨by omega,.inr ⟨_,_,hd,by simp [hl,hlen],fun i x e' hx he'=>?_⟩⟩,Cl.one ?_⟩
   ·obtain⟨y,rc,h1,_,h3,_⟩:=hQ i x hx
    rw [Qa0,h1]at he'
    cases he';exact h3
   by_cases h0:len=0
   ·have:l=[]:=QpG.1 (by omega)
    subst this;subst h0;exact .sl0 _ _ _
   obtain⟨b,off,spot⟩:=a
   obtain⟨y0,rc0,_,h02,_⟩:=hat 0 (by omega)
   have hs:spot=none:=by
    obtain⟨_,h2,h3⟩:=World.cells?_some h02
    have h4:=h3 0 hz0
    obtain⟨c0,hc0⟩:∃c0,rc0[0]? = some c0:=⟨_,QH (by omega)⟩
    rw [hc0]at h4
    simpa [Addr.add] using World.cell?_spot h4
   subst hs
   have hb:b<w.heap.size:=by
    have hb:=World.cells?_block h02 hz0
    rwa [WideShapes.add_plain]at hb
   have hcell:∀i,i<len->∀rc,w.cells? 0 ((⟨b,off,none⟩:Addr).add (i*P.cellsOf e)) (P.cellsOf e)=some rc->rc.length=P.cellsOf e/\∀j,j<P.cellsOf e->w.cell? ⟨b,off+(i*P.cellsOf e+j),none⟩=rc[j]? := fun i hi rc h=>by
    obtain⟨_,h2,h3⟩:=World.cells?_some h
    refine⟨h2,fun j hj=>?_⟩
    have:=h3 j hj
    rw [WideShapes.add_plain,WideShapes.add_plain]at this
    rw [<-QpL];exact this
   refine .sl b off len cap (P.cellsOf e) (l.map row) (fun j=>(w.cell? ⟨b,off+j,none⟩).getD undef) hb (by simp [hl]) hlc (fun r hr=>by obtain⟨x,_,rfl⟩:=QbF.1 hr;exact hrow x) (fun j hj=>?_) (fun i r hr j v hv=>?_)
   ·have hij:j / P.cellsOf e<len:=Nat.div_lt_of_lt_mul (by rw [Nat.mul_comm];exact hj)
    obtain⟨y,rc,_,h2,_⟩:=hat (j / P.cellsOf e) hij
    obtain⟨h3,h4⟩:=hcell _ hij rc h2
    have h5:=h4 (j % P.cellsOf e) (Nat.mod_lt _ hz0)
    rw [Nat.mul_comm (j / P.cellsOf e),Nat.div_add_mod]at h5
    rw [h5]
    have:j % P.cellsOf e<rc.length:=by rw [h3];exact Nat.mod_lt _ hz0
    rw [QH this];rfl
   rw [Qa0]at hr
   obtain⟨x,hx,rfl⟩:=Qa1.1 hr
   have hi:i<len:=by rw [<-hl];exact(Q2.1 hx).1
   obtain⟨y,rc,_,h2,_,h3⟩:=hQ i x hx
   obtain⟨h4,h5⟩:=hcell i hi rc h2
   have hj:j<P.cellsOf e:=by rw [<-(hrow x).1];exact(Q2.1 hv).1
   have h6:=h5 j hj
   obtain⟨c,hc⟩:∃c,rc[j]? = some c:=⟨_,QH (by omega)⟩
   rw [hc]at h6
   show Dat _ w ((w.cell? ⟨b,off+(i*P.cellsOf e+j),none⟩).getD undef) v
   rw [h6]
   exact h3.2 j c v hc hv
  cases h
theorem RdF.nil {off:Nat}:RdF enc P w N off 0 [] (fun _:Unit=>[]) (fun _ xs=>xs=[]):=fun fuel cs xs _ hl h=>by
 simp at h
 subst h
 exact⟨(),rfl,by rw [List.drop_of_length_le (by omega)];exact Cl.nil⟩
theorem RdF.cons {α β:Type}(t off z:Nat){tot:Nat}{fs:List (Nat×Nat)}{row1:α->List V}{row2:β->List V}{wf1:α->DataW H->Prop}{wf2:β->List (DataW H)->Prop}(hz:P.cellsOf t=z)
  (h1:Rd enc P w N t row1 wf1) (h2:RdF enc P w N (off+z) tot fs row2 wf2):RdF enc P w N off (z+tot) ((t,off)::fs) (fun x:α×β=>row1 x.1++row2 x.2) (fun x ds=>∃d r,ds=d::r/\wf1 x.1 d/\wf2 x.2 r):=by
 intro fuel cs xs hN hl h
 subst hz
 rw [List.mapM_cons]at h
 obtain⟨y,hy,h⟩:=QpM.1 h
 obtain⟨ys,hys,h⟩:=QpM.1 h
 cases h
 obtain⟨x1,a1,a2⟩:=h1 fuel _ y.1 y.2 hN hy
 obtain⟨x2,b1,b2⟩:=h2 fuel cs ys hN (by omega) hys
 refine⟨(x1,x2),⟨y.1,ys.map Prod.fst,rfl,a1,b1⟩,?_⟩
 have:cs.drop off=(cs.drop off).take (P.cellsOf t)++cs.drop (off+P.cellsOf t):=by
  rw [<-List.drop_drop,List.take_append_drop]
 rw [this]
 exact a2.append b2
def Qv9 (P:Program)(t:TypeId)(fs:List (Nat×Nat))(tot:Nat):Bool:=match P.underlying t with
 | some (.struct gs)=>(gs.toList.map fun f=>(f.type,f.offset))==fs&&P.cellsOf t==tot
 | _=>false
theorem QwR {t tot:Nat}{fs:List (Nat×Nat)}(h:Qv9 P t fs tot=true):∃gs,P.underlying t=some (.struct gs)/\(gs.toList.map fun f=>(f.type,f.offset))=fs/\P.cellsOf t=tot:=by
 unfold Qv9 at h
 split at h
 ·rename_i gs hg
  rw [QA,beq_iff_eq,beq_iff_eq]at h
  exact⟨gs,hg,h.1,h.2⟩
 cases h
theorem Rd.struct {α:Type}{fs:List (Nat×Nat)}{tot:Nat}{row:α->List V}{wf:α->List (DataW H)->Prop}(hB:Qv9 P t fs tot=true)(hf:RdF enc P w N 0 tot fs row wf):
  Rd enc P w (N+1) t row (fun x d=>∃ds,d=.agg ds/\wf x ds):=by
 obtain⟨gs,ht,hfs,hc⟩:=QwR hB
 intro fuel cs d ps hN h
 cases fuel with
 | zero=>simp [DataW.trod]at h
 | succ fuel=>
  simp only [DataW.trod,ht]at h
  split at h
  ·rename_i hl
   obtain⟨xs,hxs,h⟩:=Qa1.1 h
   cases h
   obtain⟨x,a1,a2⟩:=hf fuel cs xs (by omega) (by rw [hl,hc];omega) (by rw [<-hfs,List.mapM_map];exact hxs)
   exact⟨x,⟨_,rfl,a1⟩,a2⟩
  cases h
def QAH (P:Program)(t e n tot:Nat)(fs:List (Nat×Nat)):Bool:=match P.underlying t with
 | some (.array m e')=>m==n&&e'==e&&P.cellsOf t==tot&&((List.range n).map fun i=>(e,i*P.cellsOf e))==fs
 | _=>false
theorem QB9 {t e n tot:Nat}{fs:List (Nat×Nat)}(h:QAH P t e n tot fs=true):P.underlying t=some (.array n e)/\P.cellsOf t=tot/\((List.range n).map fun i=>(e,i*P.cellsOf e))=fs:=by
 unfold QAH at h
 split at h
 ·rename_i m e' hg
  simp only [QA,beq_iff_eq]at h
  obtain⟨⟨⟨rfl,rfl⟩,h⟩,h2⟩:=h
  exact⟨hg,h,h2⟩
 cases h
theorem Rd.array {α:Type}{e n tot:Nat}{fs:List (Nat×Nat)}{row:α->List V}{wf:α->List (DataW H)->Prop}(hB:QAH P t e n tot fs=true)(hf:RdF enc P w N 0 tot fs row wf):
  Rd enc P w (N+1) t row (fun x d=>∃ds,d=.agg ds/\wf x ds):=by
 obtain⟨ht,hc,hfs⟩:=QB9 hB
 intro fuel cs d ps hN h
 cases fuel with
 | zero=>simp [DataW.trod]at h
 | succ fuel=>
  simp only [DataW.trod,ht]at h
  split at h
  ·rename_i hl
   obtain⟨xs,hxs,h⟩:=Qa1.1 h
   cases h
   obtain⟨x,a1,a2⟩:=hf fuel cs xs (by omega) (by rw [hl,hc];omega) (by rw [<-hfs,List.mapM_map];exact hxs)
   exact⟨x,⟨_,rfl,a1⟩,a2⟩
  cases h
def okI (k:IntKind)(n:Int):Prop:=k.min<=n/\n<=k.max
def okS (s:ByteArray):Prop:=s.size<=maxLen
def okL {α:Type}(ok:α->Prop)(l:List α):Prop:=l.length<=maxLen/\∀x∈l,ok x
theorem QE6 {k:IntKind}{n:Int}{d:DataW H}(h:(Lit.int k n).wf=true/\d=.lit (.int k n)):okI k n:=by
 have:=h.1
 simp only [Lit.wf,QA,QN]at this
 exact this
theorem QiZ {α:Type}{ok:α->Prop}{l:List α}{d:DataW H}(h:wfL (fun x _=>ok x) l d):okL ok l:=by
 refine⟨h.1,fun x hx=>?_⟩
 rcases h.2 with⟨_,rfl⟩|⟨es,sp,_,h3,h4⟩
 ·simp at hx
 obtain⟨i,hi⟩:=Qmd.1 hx
 have hlt:i<es.length:=by rw [h3];exact(Q2.1 hi).1
 exact h4 i x _ hi (QH hlt)
theorem QDY {w:World}{r:Reach}{base t tot:Nat}{v:Value}{fs:List (Nat×Nat)}(h:Qv9 P t fs tot=true)(hv:Value.okWide P w r base t v):∃cs,v=.agg cs:=by
 obtain⟨gs,h1,_⟩:=QwR h
 obtain⟨cs,h2,_⟩:=WideShapes.okWide_struct h1 hv
 exact⟨cs,h2⟩
theorem Qkr {z:Nat}{r:List V}(h:(Nat.beq r.length z&&r.all V.one)=true):Qhv z r:=by
 rw [QA,Qad]at h
 exact⟨QaJ h.1,h.2⟩
end
section
variable {H:Type}{enc:TypeId×Value->H}{P:Program}
theorem Qc.law {f:FuncId}{us:List V}{args:Array Value}{W:World}(h:Qc P f us [] (Gives (.b true) []))(hG:QoM P (fun k=>k<W.heap.size) W)(hs:args.size=us.length)
  (ha:∀(j:Nat) x v,args[j]? = some x->us[j]? = some v->Dat (fun k=>k<W.heap.size) W x v):Calls P f args W fun e w'=>e=.returned (.bool true)/\Below W.heap.size W w':=by
 refine(h (fun k=>k<W.heap.size) (fun _=>none) W args ⟨fun k hk=>hk,fun _ _ _ _ _ h=>(by cases h),fun _ _ h=>(by cases h),hs,fun j x v h1 h2=>.dat (ha j x v h1 h2),fun _ _ h=>(by cases h)⟩ hG).mono ?_
 rintro e w' ⟨x,v,hs',φ',rfl,⟨rfl,_⟩,out⟩
 exact⟨by rw [out.rep.b_inv],out.os,out.tape,out.output,out.size,fun k hk=>out.kept k hk fun _ _ h=>by cases h⟩
theorem Quf (hl:laidOutB P=true){W W':World}(hb:Below W.heap.size W W'):∀{ts:List TypeId} {vs:List Value} {ds:List (DataW H)} {ps:List MemPlace},(∀t∈ts,P.readableRec t=true/\t<P.types.size)->
  DataW.TrodAll enc P W 0 (fun _=>true) true ts vs ds ps->(∀x∈ps,x.block<W.heap.size)->DataW.TrodAll enc P W' 0 (fun b=>decide (b<W.heap.size)) true ts vs ds ps
 | [],[],[],_,_,h,_=>h
 | t::ts,v::vs,d::ds,_,hr,⟨p,q,h1,h2,e⟩,hlt=>⟨p,q,Below.trod hl (hr t (QbE)).1 (hr t (QbE)).2 h1 hb (fun x hx=>hlt x (by rw [e];exact List.mem_append_left _ hx)),
   Quf hl hb (fun t ht=>hr t (Qca _ ht)) h2 (fun x hx=>hlt x (by rw [e];exact List.mem_append_right _ hx)),e⟩
theorem QDZ {f:Func}{s:ChangeSpec}{apart fresh:Bool}{W W':World}{args:Array Value}{ds:List (DataW H)}{before:List MemPlace}{tb:TypeId}(hl:laidOutB P=true)(hr:∀t∈f.params.toList,P.readableRec t=true/\t<P.types.size)
  (hW:DataW.Whole enc P f.params.toList s.vars apart W args.toList ds [] before) (hv:s.vars=[]) (hb:Below W.heap.size W W') (hrt:f.resultTypes=#[tb]) (htb:P.underlying tb=some .bool)
  (hres:(s.fn H (ds++[])).results=[.lit (.bool true)]) (hargs:(s.fn H (ds++[])).args=ds) (hvars:(s.fn H (ds++[])).vars=[]):s.post enc P f apart fresh false false W args (.bool true) W':=by
 have hW0:=hW
 obtain⟨p,q,hA,hV,rfl,_,_⟩:=hW
 have hlt:=hW0.lt
 rw [hv]at hV
 have hq:q=[]:=hV
 subst hq
 refine⟨ds,[],_,[],p,[],hW0,?_,?_,?_,?_,fun h=>by cases h⟩
 ·rw [hres,hrt]
  exact⟨[],[],shut_bool htb true,rfl,rfl⟩
 ·rw [hargs]
  exact Quf hl hb hr hA fun x hx=>hlt x (List.mem_append_left _ hx)
 ·rw [hvars,hv];rfl
 exact World.keptBut_mono (fun p hp=>hp.elim) (hb.frame (fun _=>False))
theorem Cl.arg1 {w:World}{v:Value}{x:V}(hv:v.cells.toList=[v])(h:Cl w v.cells.toList [x]):Dat (fun k=>k<w.heap.size) w v x:=h.2 0 v x (by rw [hv];rfl) rfl
theorem Cl.argS {w:World}{cs:Array Value}{vs:List V}(h:Cl w (Value.agg cs).cells.toList vs):Dat (fun k=>k<w.heap.size) w (.agg cs) (.agg vs):=by
 refine .agg cs vs (by simpa [Value.cells] using h.1) fun j x v hx hv=>h.2 j x v (by simpa [Value.cells] using hx) hv
theorem Rd.open {α:Type}{w:World}{t:TypeId}{row:α->List V}{wf:α->DataW H->Prop}{v:Value}{d:DataW H}{p:List MemPlace}(h:∀N,Rd enc P w N t row wf)(hd:DataW.Trod enc P w 0 (fun _=>true) true t v d p):∃x,wf x d/\Cl w v.cells.toList (row x):=by
 obtain⟨n,hn⟩:=hd
 exact h n n _ _ _ (QcR _) hn
end
end Go.Vm
namespace Go.Vm
open Go Go.RowKit
section
variable {P:Program}{C:Ctx}{Q:Exit->St->Prop}{σ:St}{ks:List Fr}{o:Oper}
theorem QzJ {σ':St}{φ φ':Prop}{d f:Nat}{vs us:List V}{M N:List (Nat×Nat)}{dead:List Nat}{ms:List Qfq}{outs hsC:List (Nat×Ob)}{r:V}
  (hus:Qm5 (bkM M) ms vs=some us) (hC:Qjl (bkM M) (look σ.hp) M=some hsC)
  (e:cmV P σ φ d f vs M N dead ms outs r=some (σ',φ')):∃hsN r',Qec σ M N dead outs=true/\(M.map Prod.fst).Nodup/\Vws σ.hp false false (Qfo M) (fun a b=>look M b=some a) vs us/\QlE σ.hp false false (Qfo M) (fun a b=>look M b=some a) σ.hp M hsC/\
   QlE [] false false [] (fun c b=>look N b=some c) outs N hsN/\Vw [] false false [] (fun c b=>look N b=some c) r r'/\σ'=(σ.after dead hsN).put d r':=by
 unfold cmV at e
 replace e:=Qag e;obtain⟨e1,e⟩:=e
 simp only [QA]at e1
 obtain⟨⟨h1,h2⟩,h3⟩:=e1
 have h2:=Qc5.1 h2
 have h3:=Qc5.1 h3
 have inj:Qiq M=true/\Qiq N=true:=by
  simp only [Qec,QA]at h1
  exact⟨h1.1.1.1,h1.1.1.2⟩
 have mM:∀a b,bkM M a=some b->look M b=some a:=fun a b h=>Qb1 inj.1 (QgI h) h2
 have mN:∀a b,bkM N a=some b->look N b=some a:=fun a b h=>Qb1 inj.2 (QgI h) h3
 simp only [hus,hC]at e
 split at e
 ·rename_i hsN hN
  split at e
  ·rename_i r' hr
   cases e
   exact⟨hsN,r',h1,h2,Qjd mM hus,Qdz mM hC,Qdz mN hN,QmQ mN hr,rfl⟩
  cases e
 cases e
theorem AK.callE {ι:Type}[Inhabited ι]{Φ:ι->Prop}{d f n:Nat}{ops:Array Oper}{rest:List Oper}{vs us:List V}{hsC:List (Nat×Ob)}(M N:List (Nat×Nat))(dead:List Nat)(ms:List Qfq)(outs:ι->List (Nat×Ob))(r:ι->V)(σ':ι->St)
  (hg:o.guard=none) (hCn:Qdy P C n) (hE:Qbx P C o σ f vs) (hd:o.dst=some d) (hn:Nat.ble (d+1) C.n=true)
  (hus:Qm5 (bkM M) ms vs=some us) (hC:Qjl (bkM M) (look σ.hp) M=some hsC)
  (hc:Qc P f us hsC fun v hs=>∃x,Φ x/\Gives (r x) (outs x) v hs)
  (e:∀x,∃φ',cmV P σ True d f vs M N dead ms (outs x) (r x)=some (σ' x,φ'))
  (k:∀x,Φ x->AK P C Q (.o ops rest) ks (σ' x)):AK P C Q (.o ops (o::rest)) ks σ:=by
 intro a w ⟨φ,hr⟩
 simp only [wpListIn,Region.wanted,hg,if_true]
 refine⟨fun _ _=>trivial,?_⟩
 obtain⟨vals,hex,h1,h2⟩:=hE φ a w hr
 rw [Qv2 hex,Oper.uponIn_enter]
 obtain⟨_,e0⟩:=e default
 obtain⟨_,_,n1,n2,hv,hobs,_,_,_⟩:=QzJ hus hC e0
 have hN0:=Names.of n1 n2
 refine⟨(fun h=>by cases h),QsA ((hc _ _ w _ (Ins.of_vals hr h1 h2 hN0.injM hN0.param hv hobs) ((hr.glob hCn.g).mono fun _ h=>.inl h)).mono ?_)⟩
 rintro e' w' ⟨x,v,hs',φ',rfl,⟨i,hΦ,rfl,hso⟩,hout⟩
 obtain⟨_,ei⟩:=e i
 obtain⟨hsN,r',n1,n2,_,_,hback,hr',hσ⟩:=QzJ hus hC ei
 have hN:=Names.of n1 n2
 obtain⟨h3,h4⟩:=hr.after hN hout hso (fun c s h=>by
  obtain⟨ob',e1⟩:=hobs.get.2 c s h
  obtain⟨s',ob,e2,e3,_⟩:=hobs.get.1 c ob' e1
  rw [h]at e2;cases e2;exact⟨ob,e3⟩) hback
 refine k i hΦ _ _ ⟨QlF φ M N dead φ',?_⟩
 rw [hd,hσ]
 exact h3.put (Qaq hn) (h4 hr')
theorem QzK {σ':St}{φ':Prop}{f:Nat}{vs us:List V}{M N:List (Nat×Nat)}{dead:List Nat}{ms:List Qfq}{outs hsC:List (Nat×Ob)}{r:V}
  (hus:Qm5 (bkM M) ms vs=some us) (hC:Qjl (bkM M) (look σ.hp) M=some hsC)
  (e:rgV P σ f vs M N dead ms outs r=some (σ',φ')):∃hsN,Qec σ M N dead outs=true/\(M.map Prod.fst).Nodup/\Vws σ.hp false false (Qfo M) (fun a b=>look M b=some a) vs us/\QlE σ.hp false false (Qfo M) (fun a b=>look M b=some a) σ.hp M hsC/\
   QlE [] false false [] (fun c b=>look N b=some c) outs N hsN/\σ'=σ.after dead hsN:=by
 unfold rgV at e
 replace e:=Qag e;obtain⟨e1,e⟩:=e
 simp only [QA]at e1
 obtain⟨⟨h1,h2⟩,h3⟩:=e1
 have h2:=Qc5.1 h2
 have h3:=Qc5.1 h3
 have inj:Qiq M=true/\Qiq N=true:=by
  simp only [Qec,QA]at h1
  exact⟨h1.1.1.1,h1.1.1.2⟩
 have mM:∀a b,bkM M a=some b->look M b=some a:=fun a b h=>Qb1 inj.1 (QgI h) h2
 have mN:∀a b,bkM N a=some b->look N b=some a:=fun a b h=>Qb1 inj.2 (QgI h) h3
 simp only [hus,hC]at e
 split at e
 ·rename_i hsN hN
  cases e
  exact⟨hsN,h1,h2,Qjd mM hus,Qdz mM hC,Qdz mN hN,rfl⟩
 cases e
theorem AK.rangeFE {ι:Type}[Inhabited ι]{Φ:ι->Prop}{g:Operand}{ps:Array Tmp}{assign body:Code}{f n:Nat}{fs cps:List V}(b:Nat)(ts:List Nat)(M N:List (Nat×Nat))(dead:List Nat)(ms:List Qfq)(K:Nat->Qhw)(hCn:Qdy P C n)(hrnd:C.rnd=none)(hK:∀fn,K fn=⟨fn,ps,assign,body⟩)
  (hg:σ.opd g=some (.clo (.func f) fs cps)) (he:Qsg P f=true) (hb:look σ.hp b=none) (hb2:Nat.ble 617 b=false)
  (H:∀l fn,∃(outs:ι->List (Nat×Ob)) (r:ι->V) (σ2:ι->St) (us:List V) (hsC:List (Nat×Ob)),Qm5 (bkM M) ms (fs++(.clo (.yield l) [] []::cps))=some us/\Qjl (bkM M) (look (σ.set b (.lp l (K fn) (snap ts σ.fr n) 0)).hp) M=some hsC/\
   Qc P f us hsC (fun v hs=>∃x,Φ x/\Gives (r x) (outs x) v hs)/\∀x,∃φ2 cs2 q,rgV P (σ.set b (.lp l (K fn) (snap ts σ.fr n) 0)) f (fs++(.clo (.yield l) [] []::cps)) M N dead ms (outs x) (r x)=some (σ2 x,φ2)/\look (σ2 x).hp b=some (.lp l (K fn) cs2 q)/\q≠1/\
   (Φ x->atJ (AK P C Q (.x .normal) ks ((σ2 x).kill b)) (fun c=>AK P C Q (.c c) ks ((σ2 x).kill b)) (jmp q))):AK P C Q (.c (.rangeFunc g ps assign body)) ks σ:=by
 obtain rfl:K=fun fn=>⟨fn,ps,assign,body⟩:=funext hK
 have hpg:=hCn.g
 replace hCn:=hCn.n
 subst hCn
 intro a w ⟨φ,hr⟩
 refine wpIn_rangeFunc fun fn _=>?_
 obtain⟨outs,r,σ2,us,hsC,hus,hC,hcall,hx⟩:=H (w.heap.size+1) fn
 obtain⟨xs,ys,hev,e1,e2,e3,e4⟩:=(hr.opd hg).clo_inv
 have hb3:b<617:=Qfp (by rw [hb2];rfl)
 refine⟨w.heap.size+1,[{ target:=.collected w.heap.size,args:=#[] }],(w.alloc (.deferred (some []))).alloc (.loop { state:=.ready,pending:=none,fn,tmps:=a.tmps,params:=ps,assign,body,defers:=w.heap.size }),{ target:=.fn (.func f) ys,args:=xs++#[.func (.yield (w.heap.size+1)) #[] #[]] },(w.alloc (.deferred (some []))).alloc (.loop { state:=.ready,pending:=none,fn,tmps:=a.tmps,params:=ps,assign,body,defers:=w.heap.size }),f,(xs++#[.func (.yield (w.heap.size+1)) #[] #[]])++ys,(w.alloc (.deferred (some []))).alloc (.loop { state:=.ready,pending:=none,fn,tmps:=a.tmps,params:=ps,assign,body,defers:=w.heap.size }),?_,?_,fun _ _=>trivial,?_,(fun h=>by cases h),?_⟩
 ·rw [show C.F.round=none from hrnd];exact run_enterLoop_outer _ _ _ _ _
 ·have hy:a.eval (.const (.func (.yield (w.heap.size+1)) #[] #[]))=.func (.yield (w.heap.size+1)) #[] #[]:=rfl
  simp only [resolve,hev,Deferred.ofValue,Sem.run_pure,List.map_toArray,Qgm,List.map_nil,hy]
 ·exact QhP he
 have hm:=hr.mark
 have hN0:=hm.none_of_look hb
 have hsz:(w.alloc (.deferred (some []))).heap.size=w.heap.size+1:=by simp
 have hR1:=hm.alloc (cap:=0) (z:=0) hb hb3 (ob:=.lp (w.heap.size+1) ⟨fn,ps,assign,body⟩ (snap ts σ.fr C.n) 0)
  (obj:=.loop { state:=.ready,pending:=none,fn,tmps:=a.tmps,params:=ps,assign,body,defers:=w.heap.size })
  ⟨a.tmps,w.heap.size,hsz,rfl,by rw [<-hsz];exact World.alloc_heap_new _ _,by rw [hr.tmps];simp [Vm.snap],fun j x v hx hv=>(hm.snap j x v hx hv).mono (hm.mono_ext _ hN0) (hm.imm_alloc b 0 0 _ hN0)⟩
 rw [hsz]at hR1
 generalize hσ1:σ.set b (.lp (w.heap.size+1) ⟨fn,ps,assign,body⟩ (snap ts σ.fr C.n) 0)=σ1 at hR1 hx hC
 generalize hw1:(w.alloc (.deferred (some []))).alloc (.loop { state:=.ready,pending:=none,fn,tmps:=a.tmps,params:=ps,assign,body,defers:=w.heap.size })=w1 at hR1 ⊢
 have hval:(xs++#[.func (.yield (w.heap.size+1)) #[] #[]])++ys=(xs.toList++(.func (.yield (w.heap.size+1)) #[] #[]::ys.toList)).toArray:=by apply Array.ext';simp
 rw [hval]
 obtain⟨_,_,_,ed,_⟩:=hx default
 obtain⟨_,n1,n2,hv,hobs,_,_⟩:=QzK hus hC ed
 have hNm:=Names.of n1 n2
 have hfr1:σ1.fr=σ.fr:=by rw [<-hσ1];rfl
 refine QsA ((hcall _ _ w1 _ (Ins.of_vals (g:=false) (vs:=fs++(.clo (.yield (w.heap.size+1)) [] []::cps)) hR1 (by simp [e1,e2]) (fun j x v hx hv=>?_) hNm.injM hNm.param hv hobs) ((hR1.glob hpg).mono fun _ h=>.inl h)).mono ?_)
 ·have up:=fun {x:Value} {v:V} (h:Rep φ (Imm C φ w) w x v)=>(h.mono (φ':=φ) (I':=Imm C φ (w.alloc (.deferred (some [])))) (w':=w.alloc (.deferred (some []))) (fun _ _ h=>h) fun k hk=>⟨⟨by have:=hk.1;simp;omega,hk.2⟩,Below.heap_alloc w _ k hk.1⟩).mono (hm.mono_ext ⟨w.heap.size+1,0,0,[],0⟩ hN0) (by
   have:=hm.imm_alloc b 0 0 (.loop { state:=.ready,pending:=none,fn,tmps:=a.tmps,params:=ps,assign,body,defers:=w.heap.size }) hN0
   rw [hsz,hw1]at this;exact this)
  by_cases c1:j<fs.length
  ·rw [Qbw (by simpa using (by omega:j<xs.size))]at hx
   rw [Qbw c1]at hv
   exact up (e3 j x v (by simpa using hx) hv)
  rw [QcA (by simp;omega)]at hx
  rw [QcA (by omega)]at hv
  simp only [Array.length_toList]at hx
  rw [e1]at hx
  generalize j-fs.length=i at hx hv
  cases i with
  | zero=>
   simp at hx hv;subst hx;subst hv
   exact .clo (.yield _) #[] #[] [] [] rfl rfl (fun j x v h=>by simp at h) (fun j x v h=>by simp at h)
  | succ i=>simp only [Qtj]at hx hv;exact up (e4 i x v (by simpa using hx) hv)
 rintro e w' ⟨x,v,hs',φ',rfl,⟨i,hΦ,rfl,hso⟩,hout⟩
 obtain⟨_,cs2,q,ei,hq,hq1,hk⟩:=hx i
 replace hk:=hk hΦ
 obtain⟨hsN,n1,n2,_,_,hback,hσ2⟩:=QzK hus hC ei
 have hNm:=Names.of n1 n2
 obtain⟨k3,_⟩:=hR1.after hNm hout hso (fun c s h=>by
  obtain⟨ob',e1⟩:=hobs.get.2 c s h
  obtain⟨s',ob,e2,e3,_⟩:=hobs.get.1 c ob' e1
  rw [h]at e2;cases e2;exact⟨ob,e3⟩) hback
 rw [<-hσ2]at k3
 obtain⟨B,hB,tmps,D,f1,f2,f3,f4,f5⟩:=k3.lp hq
 have hst:lst q≠.busy:=by
  match q,hq1 with
  | 0,_=>exact(by intro h;cases h)
  | 1,h=>exact absurd rfl h
  | k+2,_=>exact(by intro h;cases h)
 refine⟨_,_,run_endLoop f3 hst,?_⟩
 have hkill:=k3.killTo hB (w':=w'.putObj (w.heap.size+1) (.loop { state:=.exhausted,pending:=jmp q,fn,tmps,params:=ps,assign,body,defers:=D })) rfl rfl rfl World.putObj_size (fun k hk=>World.putObj_heap_other (by rw [<-f1];exact hk))
 simp only
 cases hj:jmp q with
 | none=>rw [hj]at hk hkill;exact hk _ _ ⟨_,hkill⟩
 | some c=>rw [hj]at hk hkill;exact hk _ _ ⟨_,hkill⟩
end
def QCa (n:Nat)(p:Int×Int):Option (Nat⊕Empty):=some (.inl (n+1))
theorem Qw3 : ∀(l:List (Int×Int)) (n:Nat),QeA QCa n l=some (.inl (n+l.length)):=by
 intro l
 induction l with
 | nil=>intro n;rfl
 | cons p l ih=>intro n;simp only [QeA,QCa,Ql,Sum.elim_inl];rw [ih];simp [Nat.add_comm,Nat.add_left_comm]
theorem QCX (l:List (Int×Int))(n:Nat):QlQ QCa n l=some (.inl (n+l.length)):=Qm6.2 ⟨fun l' h=>by rw [Qw3,Qw3,h.length_eq],Qw3 l n⟩
theorem QCb {l m:List Int}(h:l.Perm m):QeD l=QeD m:=by
 rw [QtM,QtM]
 refine List.Perm.eq_of_pairwise (le:=fun x y:Int=>x<=y) ?_ ?_ ?_ ?_
 ·intro a b _ _ h1 h2;omega
 ·exact(List.pairwise_mergeSort (le:=fun x y:Int=>decide (x<=y)) (fun a b c h1 h2=>by simp at *;omega) (fun a b=>by simp;omega) l).imp fun h=>by simpa using h
 ·exact(List.pairwise_mergeSort (le:=fun x y:Int=>decide (x<=y)) (fun a b c h1 h2=>by simp at *;omega) (fun a b=>by simp;omega) m).imp fun h=>by simpa using h
 exact((List.mergeSort_perm l _).trans h).trans (List.mergeSort_perm m _).symm
end Go.Vm
namespace Go.Vm
open Go Go.RowKit
def spZ : List Int:=(List.range 256).map fun c=>if Lib.isSp (UInt8.ofNat c)then 1 else 0
theorem QBl {P:Program}{W:World}(h:Lib.TabIs P W "strings.asciiSpace" .u8 spZ):QoM P (fun k=>k<W.heap.size) W:=fun g hg=>by
 have hc:∀c:Nat,c<256->W.cell? ⟨g,c,none⟩=some (.int .u8 (if Lib.isSp (UInt8.ofNat c)then 1 else 0)):=fun c hc=>by
  rw [h.cell hg c (by simp only [spZ,QpH,Qv0];exact hc)]
  simp [spZ,List.getD,hc]
 have h0:g<W.heap.size:=by
  have:=hc 0 (by decide)
  apply Nat.lt_of_not_le
  intro hle
  have e:W.heap[g]? = none:=Array.getElem?_eq_none hle
  simp [World.cell?,e]at this
 exact⟨h0,h0,hc⟩
theorem QAI {P:Program}{W:World}{l r:List (String×DataW Unit)}{g:Nat}{t e:TypeId}(n:Nat)(hl:l.drop n=("strings.asciiSpace",Lib.tabData .u8 spZ)::r)(hp:(l.all fun x=>x.2.handleName?.isNone)=true)
  (hg:P.globalNamed "strings.asciiSpace" = some g) (hty:(P.globals[g]?).map (·.type)=some t) (ht:P.underlying t=some (.array 256 e)) (he:P.underlying e=some (.int .u8)) (hce:P.cellsOf e=1) (hct:P.cellsOf t=256)
  (h:laidMetH P l W):QoM P (fun k=>k<W.heap.size) W:=by
 rw [MakeChecks.laidMetH_plain _ _ _ hp]at h
 have key:∀(n:Nat) (l:List (String×DataW Unit)),laidMet P l W->laidMet P (l.drop n) W:=by
  intro n
  induction n with
  | zero=>intro l h;exact h
  | succ n ih=>
   intro l h
   cases l with
   | nil=>exact h
   | cons x l=>exact ih l h.tail
 have h2:=key n l h
 rw [hl]at h2
 exact QBl (Lib.tabIs_of_head hg hty ht he hce hct h2)
end Go.Vm
namespace Go.Vm
open Go Go.RowKit
variable {H:Type}{P:Program}
def Sz (P:Program)(t:Nat)(d:DataW H):Prop:=∀n∈d.weights P t,n<=reachBytes
theorem Sz.all {ts:List TypeId}{ds:List (DataW H)}(h:(DataW.weightsEach P ts ds).all (·<=reachBytes)=true){j:Nat}{t:Nat}{d:DataW H}(ht:ts[j]? = some t)(hd:ds[j]? = some d):Sz P t d:=fun n hn=>by
 have:=Qad.1 h n (DataW.weights_mem_each ht hd n hn)
 simpa using this
theorem Sz.field {t:Nat}{fs:Array Field}(hu:P.underlying t=some (.struct fs)){ds:List (DataW H)}(h:Sz P t (.agg ds)){j:Nat}{u:Nat}{d:DataW H}(ht:(fs.toList.map (·.type))[j]? = some u)(hd:ds[j]? = some d):Sz P u d:=fun n hn=>h n (by
 simp only [DataW.weights,hu]
 exact DataW.weights_mem_each ht hd n hn)
end Go.Vm
namespace Go.Vm
open Go Go.RowKit
section
variable {κ α:Type}[DecidableEq κ]
theorem Qx5 {π:Type}{L:List (Nat×π)}{seen:Array Nat}{y:Nat}:Qa2 L (seen.push y)=(Qa2 L seen).filter fun q=>!(q.1==y):=by
 unfold Qa2
 rw [List.filter_filter]
 apply List.filter_congr
 intro q _
 rw [Qth]
 simp [Array.mem_push]
 constructor
 ·rintro ⟨h1,h2⟩;exact⟨h2,h1⟩
 rintro ⟨h1,h2⟩;exact⟨h2,h1⟩
structure QtN (L L':List (Nat×(κ×α))) (seen:Array Nat):Prop where
 keys:L'.map (·.2.1)=L.map (·.2.1)
 left:Qa2 L' seen=Qa2 L seen
theorem QtN.refl {L:List (Nat×(κ×α))}{seen:Array Nat}:QtN L L seen:=⟨rfl,rfl⟩
theorem QtN.push {L L':List (Nat×(κ×α))}{seen:Array Nat}(h:QtN L L' seen)(y:Nat):QtN L L' (seen.push y):=⟨h.keys,by rw [Qx5,Qx5,h.left]⟩
theorem QtN.nil {L L':List (Nat×(κ×α))}{seen:Array Nat}(h:QtN L L' seen)(hq:Qa2 L' seen=[]):Qa2 L seen=[]:=by rw [<-h.left];exact hq
end
section
variable {P:Program}{C:Ctx}{σ:St}{o:Oper}{κ α:Type}[DecidableEq κ]
end
theorem AK.know {P:Program}{C:Ctx}{Q:Exit->St->Prop}{σ:St}{ks:List Fr}{pt:Pt}{p:Prop}(h:∀a w,R C σ a w->p)(k:p->AK P C Q pt ks σ):AK P C Q pt ks σ:=
 AK.weakenE (ι:=PLift p) (f:=fun _=>σ) (fun a w hR=>⟨⟨h a w hR⟩,hR⟩) fun i=>k i.down
theorem AK.openMapK {P:Program}{C:Ctx}{Q:Exit->St->Prop}{σ:St}{ks:List Fr}{κ α:Type}[DecidableEq κ]{K:TypeId}{e:κ->V}{val:κ->Value}{f:α->V}{lt:List (κ×α)}{b:Nat}{pt:Pt}(hk:QgW P K e val)(hb:look σ.hp b=some (.map (QQ e f lt)))
  (h:∀bm clock (L:List (Nat×(κ×α))),(L.map (·.1)).Nodup->(L.map (·.2.1)).Nodup->(L.map Prod.snd).Perm lt->AK P C Q pt ks (σ.set b (.mapX bm clock (Qko e f L) (QQ e f lt)))):AK P C Q pt ks σ:=by
 refine AK.openMap hk hb fun bm clock L h1 h2=>AK.know (p:=(lt.map Prod.fst).Nodup) (fun a w ⟨φ,hr⟩=>?_) fun hn=>h bm clock L h1 ?_ h2
 ·rcases hr.heap b _ (St.look_set_same _ _ _)with⟨B,hB,_,M,_,_,_,g3,_⟩|⟨_,e'⟩
  ·exact(QpP hk.einj).1 g3
  exact e'.elim
 have:=(h2.map Prod.fst).nodup_iff.2 hn
 rw [QpI]at this
 exact this
end Go.Vm
namespace Go.Vm
open Go Go.RowKit
section
variable {P:Program}{C:Ctx}{σ:St}{o:Oper}{A:Nat->Nat}
theorem RR.grow {φ:Nat->Option Blk}{a:Act}{w:World}(hr:RR C φ σ a w){b z T:Nat}{rs:List (List V)}{cs:List V}{ys:Array Value}(hb:look σ.hp b=some (.tbl A z rs))(hlt:b<617)(hz:cs.length=z)(h1:∀v∈cs,v.one=true)
  (hs:ys.size=z) (hc:∀(j:Nat) x v,ys[j]? = some x->cs[j]? = some v->Dat (Imm C φ w) w x v):
  ∃φ',RR C φ' ((σ.kill b).set b (.tbl (fun i=>if i=rs.length then w.heap.size else A i) z (rs++[cs]))) a (w.alloc (.cells ys T)):=by
 generalize hA':(fun i=>if i=rs.length then w.heap.size else A i)=A'
 have hnew:A' rs.length=w.heap.size:=by rw [<-hA'];simp
 have hold:∀i,i<rs.length->A' i=A i:=fun i hi=>by rw [<-hA'];simp [Nat.ne_of_lt hi]
 have hrng:(List.range (rs++[cs]).length).map A'=(List.range rs.length).map A++[w.heap.size]:=by
  rw [QcQ,Qfg,QkU,List.range_succ,List.map_append,Qgm,List.map_nil,hnew]
  congr 1
  exact List.map_congr_left fun i hi=>hold i (QkV.1 hi)
 have hok:(∀r∈rs,Qhv z r)->∀r∈rs++[cs],Qhv z r:=fun h r hr=>by
  rcases Qcm.1 hr with hr | hr
  ·exact h r hr
  rw [Qod.1 hr];exact⟨hz,h1⟩
 have row:∀{I:Nat->Prop},(∀k,Imm C φ w k->I k)->∃cs2 E,(w.alloc (.cells ys T)).heap[w.heap.size]? = some (.cells cs2 E (0,0))/\cs2.size=z/\∀(j:Nat) v,cs[j]? = some v->∃x,cs2[j]? = some x/\Dat I (w.alloc (.cells ys T)) x v:=fun {I} hI=>by
  refine⟨ys,T,heap_alloc_new w _,hs,fun j v hv=>?_⟩
  have hj:j<ys.size:=by rw [hs,<-hz];exact(Q2.1 hv).1
  exact⟨ys[j],QfY hj,(hc j _ v (QfY hj) hv).mono fun k hk=>⟨hI k hk,Below.heap_alloc w _ k hk.1⟩⟩
 rcases hr.heap b _ hb with⟨B,hB,hrep⟩|⟨hn,h⟩
 ·let B':Blk:=⟨B.b,B.cap,B.z,B.more++[w.heap.size],B.off⟩
  have hhas:∀k,B'.has k↔B.has k\/k=w.heap.size:=fun k=>by simp [Blk.has,B',or_assoc]
  have hI0:∀k,Imm C φ w k->Imm C (ext φ b B') (w.alloc (.cells ys T)) k:=fun k hk=>⟨by have:=hk.1;simp;omega,hk.2.1,fun o B1 h1=>by
   by_cases e:o=b
   ·subst e;rw [Q9]at h1;cases h1
    rw [hhas];rintro (h2 | h2)
    ·exact hk.2.2 _ B hB h2
    have:=hk.1;omega
   rw [QU _ e]at h1;exact hk.2.2 o B1 h1⟩
  have:=hr.change hB (B':=B') ⟨rfl,rfl,rfl,rfl⟩ (fun h=>absurd hlt (by omega)) (ob:=.tbl A' z (rs++[cs])) (w':=w.alloc (.cells ys T)) rfl rfl rfl (by simp) (fun k hk _=>Below.heap_alloc w _ k hk)
   (fun k hk=>by
    rcases(hhas k).1 hk with h2 | h2
    ·exact⟨by have:=(hr.lt b B k hB h2).1;simp;omega,.inl h2⟩
    ·exact⟨by simp;omega,.inr (by omega)⟩) (by
    refine⟨by rw [hrng,<-hrep.1];rfl,?_,hok hrep.2.2.1,fun i q hi=>?_⟩
    ·show((B.b::B.more)++[w.heap.size]).Nodup
     rw [List.nodup_append]
     refine⟨hrep.2.1,by simp,fun x hx y hy=>?_⟩
     rw [Qod.1 hy]
     have:=(hr.lt b B x hB (by unfold Blk.has;exact Qbm.1 hx)).1
     omega
    rcases Qe1 i rs.length with hlt' | hge
    ·rw [Qbw hlt']at hi
     obtain⟨cs2,E,g1,g2,g3⟩:=hrep.2.2.2 i q hi
     have hAi:A i<w.heap.size:=(hr.lt b B _ hB ((hrep.has _).2 ⟨i,hlt',rfl⟩)).1
     exact⟨cs2,E,by rw [hold i hlt',Below.heap_alloc w _ _ hAi];exact g1,g2,fun j u hu=>let ⟨x',hx',hD⟩:=g3 j u hu;⟨x',hx',hD.mono fun k hk=>⟨hI0 k hk,Below.heap_alloc w _ k hk.1⟩⟩⟩
    have hi0:i=rs.length:=by have:=(Q2.1 hi).1;simp at this;omega
    subst hi0
    rw [QcA (QcR _),Nat.sub_self]at hi
    simp at hi;subst hi
    rw [hnew];exact row hI0)
  have h2:=this.reset b (.tbl A' z (rs++[cs])) ⟨_,St.look_set_same _ _ _⟩ (.inl ⟨B',Q9 _ _ _,this.block (Q9 _ _ _) (St.look_set_same _ _ _)⟩)
  rw [St.set_kill]at h2
  exact⟨_,h2⟩
 replace h:rs=[]:=h
 subst h
 have hk:=hr.kill b
 have hnone:look (σ.kill b).hp b=none:=by
  cases h:look (σ.kill b).hp b with
  | none=>rfl
  | some ob=>exact absurd rfl (Qc0 _ _ _ h).1
 have hdel:del φ b=φ:=by
  funext k
  by_cases e:k=b
  ·subst e;rw [Qtt,hn]
  rw [Qev e]
 have hI1:=hk.imm_alloc b 0 0 (.cells ys T) (Qtt _ _)
 refine⟨_,hk.alloc (cap:=0) (z:=0) hnone hlt (ob:=.tbl A' z ([]++[cs])) (obj:=.cells ys T) ⟨?_,by simp,hok (by simp),fun i q hi=>?_⟩⟩
 ·rw [hrng];rfl
 have hi0:i=0:=by have:=(Q2.1 hi).1;simp at this;omega
 subst hi0
 simp at hi;subst hi
 have:A' 0=w.heap.size:=hnew
 rw [this]
 exact row fun k hk'=>(hI1 k (by rw [hdel];exact hk')).1
end
end Go.Vm
namespace Go.Vm
open Go Go.RowKit Go.Shelf Go.Lib Go.Proofs
noncomputable def QF9 (ρ:Ren)(nm:String):Func:={ Body2.n22 ρ with name:=nm }
noncomputable def ovF (ρ:Ren)(nm:String):Func:={ Body2.n29 ρ with name:=nm }
structure QGf (P:Program) (ρ:Ren) (n1 n2:String) (E z by_:Nat) (zv:Value):Prop where
 mixed:P.follows .mixedOrders=true
 f22:P.funcs[ρ.f 22]? = some (QF9 ρ n1)
 f29:P.funcs[ρ.f 29]? = some (ovF ρ n2)
 nm:(n2 == "runtime.NumGoroutine")=false
 nx:Extern.findNext (ovF ρ n2)=none
 fd:Extern.find (ovF ρ n2)=some (Extern.SlicesOverlaps.overlaps #[(ρ.t 24),(ρ.t 24)] #[(ρ.t 4)])
 t0:P.underlying (ρ.t 0)=some (TypeDesc.tuple #[])
 t3:P.underlying (ρ.t 3)=some (TypeDesc.int IntKind.i64)
 t4:P.underlying (ρ.t 4)=some (TypeDesc.bool)
 t24:P.underlying (ρ.t 24)=some (TypeDesc.slice E)
 zE:∀w,(Go.sizeOf E).run P w=.ok z w
 iE:(P.info? E).map (fun i=>(i.zero,i.size,i.bytes))=some (some zv,z,by_)
 zc:zv.cells.size=z
 z0:0<z
 small:by_<=32768
variable {P:Program}{ρ:Ren}{n1 n2:String}{E z by_:Nat}{zv:Value}
def QhV (I:Nat->Prop)(w:World)(z:Nat)(l:List Value)(rs:List (List V)):Prop:=l.length=rs.length*z/\(∀r∈rs,Qhv z r)/\(∀u∈l,u.oneCell'=true)/\∀(i:Nat) r,rs[i]? = some r->∀(j:Nat) v,r[j]? = some v->∃u,l[i*z+j]? = some u/\Dat I w u v
theorem QhV.append {I:Nat->Prop}{w:World}{l m:List Value}{rs us:List (List V)}(h:QhV I w z l rs)(k:QhV I w z m us):QhV I w z (l++m) (rs++us):=by
 obtain⟨h1,h2,h3,h4⟩:=h
 obtain⟨k1,k2,k3,k4⟩:=k
 obtain⟨g1,g2⟩:=Qoh (rest:=[]) (n:=rs.length) rfl h1 h2 k2 k1 h4 k4
 refine⟨by rw [QcQ,QcQ,h1,k1,Qdl],g1,fun u hu=>(Qcm.1 hu).elim (h3 u) (k3 u),by simpa using g2⟩
theorem QhV.take {I:Nat->Prop}{w:World}{l:List Value}{rs:List (List V)}(h:QhV I w z l rs){i:Nat}(hi:i<=rs.length):QhV I w z (l.take (i*z)) (rs.take i):=by
 obtain⟨h1,h2,h3,h4⟩:=h
 have hle:i*z<=rs.length*z:=Qdm z hi
 refine⟨by rw [Qe0,Qe0,h1,Nat.min_eq_left hle,Nat.min_eq_left hi],fun r hr=>h2 r (QfC hr),fun u hu=>h3 u (QfC hu),fun k r hk j v hj=>?_⟩
 rw [QbU]at hk
 split at hk
 ·rename_i hki
  obtain⟨u,hu,hD⟩:=h4 k r hk j v hj
  have hjz:j<z:=by have:=(Q2.1 hj).1;rwa [(h2 r (Qae hk)).1]at this
  have:(k+1)*z<=i*z:=Qdm z hki
  rw [Qdl]at this
  exact⟨u,by rw [QbU,if_pos (by omega)];exact hu,hD⟩
 cases hk
theorem QhV.drop {I:Nat->Prop}{w:World}{l:List Value}{rs:List (List V)}(h:QhV I w z l rs){i:Nat}(hi:i<=rs.length):QhV I w z (l.drop (i*z)) (rs.drop i):=by
 obtain⟨h1,h2,h3,h4⟩:=h
 refine⟨by rw [Qmc,Qmc,h1,Nat.sub_mul],fun r hr=>h2 r (QpK hr),fun u hu=>h3 u (QpK hu),fun k r hk j v hj=>?_⟩
 rw [Qhs]at hk
 obtain⟨u,hu,hD⟩:=h4 _ r hk j v hj
 exact⟨u,by rw [Qhs,<-hu];congr 1;rw [Qdl];omega,hD⟩
theorem QhV.mono {I I':Nat->Prop}{w w':World}(hI:∀k,I k->I' k/\w'.heap[k]? = w.heap[k]?){l:List Value}{rs:List (List V)}(h:QhV I w z l rs):QhV I' w' z l rs:=
 ⟨h.1,h.2.1,h.2.2.1,fun i r hi j v hj=>let ⟨u,hu,hD⟩:=h.2.2.2 i r hi j v hj;⟨u,hu,hD.mono hI⟩⟩
section
variable {C:Ctx}{σ:St}{o:Oper}
end
section
variable {P:Program}{C:Ctx}{σ:St}{o:Oper}
theorem Stp.appSB {T U d e e' z z' by_ by' b n m:Nat}{x y:Operand}{rs us rs':List (List V)}{zs:List V}(ho:o.op=.call { callee:=.builtin .append,args:=#[x,y],argTypes:=#[T,U] })
  (hd:o.dst=some d) (hn:Nat.ble (d+1) C.n=true) (hx:σ.opd x=some (.own b n)) (hb:look σ.hp b=some (.arr z rs)) (hb1:Nat.ble 617 b=false) (hnl:rs.length=n)
  (hT:QaA P T=some (e,z,by_)) (hU:QaA P U=some (e',z',by')) (hz:QaC P e=some zs) (hzl:zs.length=z) (hz0:z≠0) (hb0:1<=by_) (hsm:decide ((n+us.length)*by_<=140737488355328)=true)
  (hy:σ.opd y=some (.sl z us)) (he:rs++us=rs') (hm:n+us.length=m):Stp P C o σ (σ.app b z d m rs'):=
 Stp.appendB ho hd hn hx hb hb1 hnl hT hU hz hzl hz0 (QcB (Nat.le_mul_of_pos_right _ hb0) (Qak hsm)) (Qak hsm) (fun φ a w hr=>(hr.opd hy).source_sl) he hm
theorem Qwa {α β:Type}{us:List α}{y:List β}{n b L:Nat}(h:decide ((n+y.length)*b<=L)=true)(e:us.length=y.length):decide ((n+us.length)*b<=L)=true:=by rw [e];exact h
end
end Go.Vm
