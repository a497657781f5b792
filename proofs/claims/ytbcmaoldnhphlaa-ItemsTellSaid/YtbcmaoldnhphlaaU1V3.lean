/- A part of the proof; what it holds is told at each theorem. -/
import Derived.Test.YtbcmaoldnhphlaaU1V2
import Derived.Laws.StructEq
import Derived.Laws.Cover3
import Derived.RangeFuncIn
import Derived.Shelf.Sort.Plain
import Derived.Shelf.Slices.In.SortNone
import Derived.Laws.BytesString
import Derived.Shelf.Slices.CompactI
import Derived.Shelf.Strings.Fields
import Derived.Carry
import Derived.ReadAgain
import Derived.OpenShut
import GoSem.ClaimJoined
import Derived.Lib.LaidTab
import Derived.LaidMore
import Derived.MakeChecks
import Derived.Stop.LaidErr
import Derived.Stop.Joined
import Derived.SizedLaws
import Derived.Handed
import Derived.Shelf.Spec.SlicesInsertGrow
set_option linter.unusedVariables false
set_option linter.unusedSimpArgs false
set_option linter.unusedSectionVars false
set_option linter.deprecated false
namespace Go.Vm
open Go Go.RowKit
structure Mut where
 kills:List Nat
 sets:List (Nat×Ob)
 put:Option (Nat×V)
def St.sets (σ:St):List (Nat×Ob)→St
 | []=>σ
 | (o,ob)::r=>(σ.sets r).set o ob
def Mut.run (M:Mut)(σ:St):St:=match M.put with
 | none=>(σ.killL M.kills).sets M.sets
 | some (d,v)=>((σ.killL M.kills).sets M.sets).put d v
def Sub (σ B:St):Prop:=(∀t v,look B.fr t=some v→look σ.fr t=some v)∧∀p ob,look B.hp p=some ob→look σ.hp p=some ob
theorem QfT {b:Nat}:∀(l:List (Nat×V)) (t:Nat),look (QdB b l) t=(look l t).map (V.kill b):=by
 intro l
 induction l with
 | nil=>intro t;rfl
 | cons p l ih=>
  obtain⟨k,v⟩:=p
  intro t
  by_cases e:k=t
  ·subst e;rw [QdB,Qn,Qn];rfl
  rw [QdB,Ql _ _ e,Ql _ _ e];exact ih t
theorem Qeh {b:Nat}:∀(l:List (Nat×Ob)) (t:Nat),look (Qb4 b l) t=if t=b then none else(look l t).map (Ob.kill b):=by
 intro l t
 by_cases h:t=b
 ·rw [if_pos h]
  cases hl:look (Qb4 b l) t with
  | none=>rfl
  | some ob=>obtain⟨h1,_⟩:=Qbi _ _ _ hl;exact absurd h h1
 rw [if_neg h]
 cases hl:look l t with
 | none=>
  cases hk:look (Qb4 b l) t with
  | none=>rfl
  | some ob=>obtain⟨_,ob',h1,_⟩:=Qbi _ _ _ hk;rw [hl]at h1;cases h1
 | some ob=>exact Qdk _ _ _ h hl
theorem Sub.kill {σ B:St}(h:Sub σ B)(b:Nat):Sub (σ.kill b) (B.kill b):=by
 refine⟨fun t v hv=>?_,fun p ob hob=>?_⟩
 ·have hv:look (QdB b B.fr) t=some v:=hv
  show look (QdB b σ.fr) t=some v
  rw [QfT]at hv ⊢
  obtain⟨u,hu,rfl⟩:=Q8.1 hv
  rw [h.1 t u hu];rfl
 have hob:look (Qb4 b B.hp) p=some ob:=hob
 show look (Qb4 b σ.hp) p=some ob
 rw [Qeh]at hob ⊢
 split at hob
 ·cases hob
 rename_i hne
 rw [if_neg hne]
 obtain⟨u,hu,rfl⟩:=Q8.1 hob
 rw [h.2 p u hu];rfl
theorem Sub.killL : ∀{l:List Nat} {σ B:St},Sub σ B→Sub (σ.killL l) (B.killL l):=by
 intro l
 induction l with
 | nil=>intro σ B h;exact h
 | cons b l ih=>intro σ B h;exact ih (h.kill b)
theorem Sub.set {σ B:St}(h:Sub σ B)(o:Nat)(ob:Ob):Sub (σ.set o ob) (B.set o ob):=by
 refine⟨h.1,fun p u hu=>?_⟩
 by_cases e:p=o
 ·subst e;rw [St.look_set_same]at hu ⊢;exact hu
 rw [St.look_set_other _ _ (Ne.symm e)]at hu ⊢;exact h.2 p u hu
theorem Sub.sets : ∀{l:List (Nat×Ob)} {σ B:St},Sub σ B→Sub (σ.sets l) (B.sets l):=by
 intro l
 induction l with
 | nil=>intro σ B h;exact h
 | cons p l ih=>intro σ B h;exact(ih h).set p.1 p.2
theorem Sub.put {σ B:St}(h:Sub σ B)(d:Nat)(v:V):Sub (σ.put d v) (B.put d v):=by
 refine⟨fun t u hu=>?_,h.2⟩
 have hu:look ((d,v)::B.fr) t=some u:=hu
 show look ((d,v)::σ.fr) t=some u
 by_cases e:d=t
 ·subst e;rw [Qn]at hu ⊢;exact hu
 rw [Ql _ _ e]at hu ⊢;exact h.1 t u hu
theorem Sub.run {σ B:St}(h:Sub σ B)(M:Mut):Sub (M.run σ) (M.run B):=by
 unfold Mut.run
 split
 ·exact h.killL.sets
 exact h.killL.sets.put _ _
def Mut.keeps (M:Mut)(t:Nat)(v:V):Bool:=M.kills.all (fun b=>v.free b)&&(match M.put with | none=>true | some (d,_)=>!(Nat.beq d t))
def Mut.keepsO (M:Mut)(p:Nat):Bool:=M.kills.all (fun b=>!(Nat.beq b p))&&M.sets.all (fun q=>!(Nat.beq q.1 p))
def Ob.keep1 (b:Nat):Ob→Bool
 | .var cs=>cs.all (V.freeC b)
 | .lp _ _ cs _=>cs.all (V.freeC b)
 | _=>true
theorem Qni : ∀{l:List Nat} {σ:St} {t:Nat} {v:V},l.all (fun b=>v.free b)=true→look σ.fr t=some v→look (σ.killL l).fr t=some v:=by
 intro l
 induction l with
 | nil=>intro σ t v _ h;exact h
 | cons b l ih=>
  intro σ t v hl h
  rw [Qf7,Qu]at hl
  refine ih hl.2 ?_
  show look (QdB b σ.fr) t=some v
  rw [QfT,h,QgR,V.kill,hl.1];rfl
theorem Qlt : ∀{l:List (Nat×Ob)} {σ:St},(σ.sets l).fr=σ.fr:=by
 intro l
 induction l with
 | nil=>intro σ;rfl
 | cons p l ih=>intro σ;exact ih
theorem Mut.keeps_look {M:Mut}{σ:St}{t:Nat}{v:V}(hk:M.keeps t v=true)(h:look σ.fr t=some v):look (M.run σ).fr t=some v:=by
 unfold Mut.keeps at hk
 rw [Qu]at hk
 have h1:look ((σ.killL M.kills).sets M.sets).fr t=some v:=by rw [Qlt];exact Qni hk.1 h
 unfold Mut.run
 split
 ·exact h1
 rename_i d u hp
 rw [hp]at hk
 have hne:d≠t:=Qdh hk.2
 show look ((d,u)::_) t=some v
 rw [Ql _ _ hne];exact h1
theorem Qlu : ∀{l:List Nat} {σ:St} {p:Nat},look σ.hp p=none→look (σ.killL l).hp p=none:=by
 intro l
 induction l with
 | nil=>intro σ p h;exact h
 | cons b l ih=>
  intro σ p h
  refine ih ?_
  show look (Qb4 b σ.hp) p=none
  rw [Qeh,h];simp
theorem Qmm : ∀{l:List (Nat×Ob)} {σ:St} {p:Nat},l.all (fun q=>!(Nat.beq q.1 p))=true→look σ.hp p=none→look (σ.sets l).hp p=none:=by
 intro l
 induction l with
 | nil=>intro σ p _ h;exact h
 | cons q l ih=>
  intro σ p hl h
  rw [Qf7,Qu]at hl
  show look ((σ.sets l).set q.1 q.2).hp p=none
  rw [St.look_set_other _ _ (Qdh hl.1)];exact ih hl.2 h
theorem Mut.none_look {M:Mut}{σ:St}{p:Nat}(hk:M.sets.all (fun q=>!(Nat.beq q.1 p))=true)(h:look σ.hp p=none):look (M.run σ).hp p=none:=by
 have h1:look ((σ.killL M.kills).sets M.sets).hp p=none:=Qmm hk (Qlu h)
 unfold Mut.run
 split<;>exact h1
theorem Ob.kill_keep {ob:Ob}{b:Nat}(h:ob.keep1 b=true):ob.kill b=ob:=by
 cases ob with
 | var cs=>
  simp only [Ob.keep1,QN]at h
  simp only [Ob.kill,Ob.var.injEq]
  conv=>rhs;rw [←List.map_id cs]
  apply QgN
  intro v hv
  simp only [V.killC,h v hv,cond_true,id]
 | lp l K cs q=>
  simp only [Ob.keep1,QN]at h
  simp only [Ob.kill,Ob.lp.injEq,true_and,and_true]
  conv=>rhs;rw [←List.map_id cs]
  apply QgN
  intro v hv
  simp only [V.killC,h v hv,cond_true,id]
 | _=>rfl
theorem QlW : ∀{l:List Nat} {σ:St} {p:Nat} {ob:Ob},l.all (fun b=>!(Nat.beq b p))=true→l.all (fun b=>ob.keep1 b)=true→look σ.hp p=some ob→look (σ.killL l).hp p=some ob:=by
 intro l
 induction l with
 | nil=>intro σ p ob _ _ h;exact h
 | cons b l ih=>
  intro σ p ob hl hp h
  rw [Qf7,Qu]at hl hp
  refine ih hl.2 hp.2 ?_
  show look (Qb4 b σ.hp) p=some ob
  rw [Qeh,if_neg (Qdh hl.1).symm,h,QgR,Ob.kill_keep hp.1]
theorem Qmn : ∀{l:List (Nat×Ob)} {σ:St} {p:Nat} {ob:Ob},l.all (fun q=>!(Nat.beq q.1 p))=true→look σ.hp p=some ob→look (σ.sets l).hp p=some ob:=by
 intro l
 induction l with
 | nil=>intro σ p ob _ h;exact h
 | cons q l ih=>
  intro σ p ob hl h
  rw [Qf7,Qu]at hl
  show look ((σ.sets l).set q.1 q.2).hp p=some ob
  rw [St.look_set_other _ _ (Qdh hl.1)];exact ih hl.2 h
theorem Mut.keepsO_look {M:Mut}{σ:St}{p:Nat}{ob:Ob}(hk:M.keepsO p=true)(hp:M.kills.all (fun b=>ob.keep1 b)=true)(h:look σ.hp p=some ob):look (M.run σ).hp p=some ob:=by
 unfold Mut.keepsO at hk
 rw [Qu]at hk
 have h1:look ((σ.killL M.kills).sets M.sets).hp p=some ob:=Qmn hk.2 (QlW hk.1 hp h)
 unfold Mut.run
 split<;>exact h1
section
variable {P:Program}{C:Ctx}{Q:Exit→St→Prop}{ops:Array Oper}{σ:St}{ks:List Fr}
theorem QnL (Inv:Array Bool→St→Prop)
  (step:∀listed σ i o,listed.size=ops.size→QjF ops listed→i∈Region.ready .any ops listed→ops[i]? = some o→Inv listed σ→∃σ',QaG P C ops o σ σ'∧Inv (listed.setIfInBounds i true) σ')
  (hord:Qlp ops=true) (hend:∀listed σ,listed.size=ops.size→(∀i,i<ops.size→listed[i]? = some true)→Inv listed σ→∀a w,R C σ a w→up C Q .normal a w):
  ∀(fuel:Nat) (listed:Array Bool) (a:Act) (w:World) (σ:St),((List.range ops.size).filter fun i=>!(listed[i]? == some true)).length≤fuel→listed.size=ops.size→QjF ops listed→Inv listed σ→R C σ a w→wpAnyIn C.F 0 P .any ops (up C Q) fuel listed a w:=by
 intro fuel
 have allOf:∀{listed:Array Bool},listed.size=ops.size→Region.ready .any ops listed=[]→∀i,i<ops.size→listed[i]? = some true:=by
  intro listed hs hr
  apply Classical.byContradiction
  intro h
  have hex:∃i,i<ops.size∧listed[i]? ≠ some true:=by
   apply Classical.byContradiction
   intro h'
   exact h fun i hi=>Classical.byContradiction fun hn=>h' ⟨i,hi,hn⟩
  obtain⟨k,h1,h2,h3⟩:=Ql8 ops.size hex
  have:=QmL hord hs h1 h2 h3
  rw [hr]at this;cases this
 induction fuel with
 | zero=>
  intro listed a w σ hf hs hd hI hR
  have hall:∀i,i<ops.size→listed[i]? = some true:=fun i hi=>by
   have:=Qf9.1 (Nat.le_zero.1 hf)
   rw [List.filter_eq_nil_iff]at this
   simpa using this i (QeM.2 hi)
  refine⟨?_,hend listed σ hs hall hI a w hR⟩
  rw [List.eq_nil_iff_forall_not_mem]
  intro i hi
  obtain⟨o,ho,hl,_⟩:=(Qe3 hs).1 hi
  rw [hall i (Qcn.1 ho).1]at hl;cases hl
 | succ fuel ih=>
  intro listed a w σ hf hs hd hI hR
  refine⟨fun hr=>hend listed σ hs (allOf hs hr) hI a w hR,fun i hi=>?_⟩
  obtain⟨o,ho,hl,hdeps⟩:=(Qe3 hs).1 hi
  obtain⟨σ',hos,hI'⟩:=step listed σ i o hs hd hi ho hI
  have hin:i<listed.size:=by rw [hs];exact(Qcn.1 ho).1
  have next:∀a' w',R C σ' a' w'→wpAnyIn C.F 0 P .any ops (up C Q) fuel (listed.setIfInBounds i true) a' w':=fun a' w' hR'=>by
   refine ih _ a' w' σ' ?_ (by simpa using hs) (hd.set hs hi) hI' hR'
   have count:∀(l:List Nat),i∈l→(l.filter fun j=>!((listed.setIfInBounds i true)[j]? == some true)).length+1≤(l.filter fun j=>!(listed[j]? == some true)).length:=by
    intro l
    have le:∀(l:List Nat),(l.filter fun j=>!((listed.setIfInBounds i true)[j]? == some true)).length≤(l.filter fun j=>!(listed[j]? == some true)).length:=by
     intro l
     induction l with
     | nil=>simp
     | cons x l ihl=>
      by_cases e:i=x
      ·subst e
       rw [List.filter_cons_of_neg (by simp [Qju,hin]),List.filter_cons_of_pos (by rw [hl];simp)]
       simp;omega
      simp only [QdM,QmZ e]
      split
      ·simpa using ihl
      exact ihl
    induction l with
    | nil=>intro h;cases h
    | cons x l ihl=>
     intro hm
     by_cases e:i=x
     ·subst e
      rw [List.filter_cons_of_neg (by simp [Qju,hin]),List.filter_cons_of_pos (by rw [hl];simp)]
      have:=le l
      simp;omega
     have hm':i∈l:=by
      rcases Qaa.1 hm with h | h
      ·exact absurd h e
      exact h
     have:=ihl hm'
     simp only [QdM,QmZ e]
     split
     ·simpa using this
     exact this
   have:=count (List.range ops.size) (QeM.2 (by rw [←hs];exact hin))
   omega
  unfold wpOpIn
  simp only [ho]
  have:=hos a w hR (wpAnyIn C.F 0 P .any ops (up C Q) fuel (listed.setIfInBounds i true)) (up C Q) next
  split
  ·rename_i hw;rw [if_pos hw]at this;exact this
  rename_i hw;rw [if_neg hw]at this;exact⟨fun _ _=>trivial,this⟩
theorem AK.regionInv {id:Nat}(Inv:Array Bool→St→Prop)(hmix:P.follows .mixedOrders=true)
  (step:∀listed σ i o,listed.size=ops.size→QjF ops listed→i∈Region.ready .any ops listed→ops[i]? = some o→Inv listed σ→∃σ',QaG P C ops o σ σ'∧Inv (listed.setIfInBounds i true) σ')
  (hord:Qlp ops=true) (h0:Inv (Array.replicate ops.size false) σ) (hend:∀listed σ',listed.size=ops.size→(∀i,i<ops.size→listed[i]? = some true)→Inv listed σ'→AK P C Q (.x .normal) ks σ'):AK P C Q (.c (.region id ops true)) ks σ:=by
 intro a w hR
 refine wpIn_region_any hmix ?_
 have hR':R C σ a { w with drawn:=w.drawn+1 }:=by
  obtain⟨φ,hr⟩:=hR
  exact⟨φ,hr.step rfl rfl rfl (QaX _) (fun _ _=>rfl)⟩
 refine QnL Inv step hord (fun listed σ' hs hall hI a w hR=>hend listed σ' hs hall hI a w hR) ops.size (Array.replicate ops.size false) a _ σ ?_ (by simp) ?_ h0 hR'
 ·exact QaQ (Qj2 _ _) (by simp)
 intro i o _ h
 simp [Array.getElem?_replicate]at h
end
inductive It where
 | add (x:DF) (fl nf:Bool)
 | tn (M:Mut)
def QE : List It→List Mut
 | []=>[]
 | .add _ _ _::r=>QE r
 | .tn M::r=>M::QE r
def bof (base:St):List Mut→St
 | []=>base
 | M::r=>bof (M.run base) r
def Ql2 (x:DF)(M:Mut):Bool:=match x.ob with | none=>true | some ob=>M.keepsO x.d&&M.kills.all (fun b=>ob.keep1 b)
def Ql3 (x:DF)(M:Mut):Bool:=M.keeps x.d x.v&&Ql2 x M
def alv (x:DF)(fl:Bool)(ms:List Mut):Bool:=fl||ms.all (fun M=>M.keeps x.d x.v)
def Qie (x:DF)(fl:Bool)(ms:List Mut):Bool:=fl||ms.all (Ql2 x)
def Qfq (σ:St)(x:DF)(fl:Bool)(ms:List Mut):Prop:=(alv x fl ms=true→look σ.fr x.d=some x.v)∧(Qie x fl ms=true→∀ob,x.ob=some ob→look σ.hp x.d=some ob)
def QdS (ops:Array Oper):Nat→Nat→Nat→Bool
 | 0,_,_=>false
 | n+1,i,k=>match ops[k]? with
  | some o=>Qet o i||o.after.toList.any fun e=>Region.binds .any e&&QdS ops n i e.on
  | none=>false
def QkY (its:List It)(p:Nat):Bool:=match its[p]? with
 | some (.tn _)=>true
 | _=>false
def Qop (ops:Array Oper)(its:List It):Bool:=(List.range its.length).all fun i=>(List.range its.length).all fun p=>!(QkY its p)||Nat.beq p i ||
 (match its[i]? with | some (.add _ true false)=>true | some _=>bif Nat.ble (p+1) i then QdS ops 8 p i else QdS ops 8 i p | none=>true)
def Qhj : List It→List Nat
 | []=>[]
 | .add x _ _::r=>x.d::Qhj r
 | .tn _::r=>Qhj r
def Qd2 : List Mut→List Nat
 | []=>[]
 | M::r=>match M.put with
  | some (d,_)=>d::Qd2 r
  | none=>Qd2 r
def Qmo : List Mut→List Nat
 | []=>[]
 | M::r=>M.sets.map Prod.fst++Qmo r
def Qi4 : List It→List Nat
 | []=>[]
 | .add x _ _::r=>match x.ob with
  | some _=>x.d::Qi4 r
  | none=>Qi4 r
 | .tn _::r=>Qi4 r
def Qiq (ms:List Mut):List It→Bool
 | []=>true
 | .add x fl _::r=>(!fl||ms.all (Ql3 x))&&Qiq ms r
 | .tn _::r=>Qiq ms r
def QjO (ms:List Mut)(S:St):Bool:=S.fr.all (fun p=>ms.all fun M=>M.keeps p.1 p.2)&&S.hp.all (fun p=>ms.all fun M=>M.keepsO p.1&&M.kills.all (fun b=>p.2.keep1 b))
def Qmp (base:St)(its:List It):Bool:=Qfn (Qhj its)&&(Qhj its).all (fun d=>!(QJ (keys base.fr) d)&&!(QJ (Qd2 (QE its)) d)) &&
 (Qi4 its).all (fun d=>!(QJ (keys base.hp) d))
def Qnj (ops:Array Oper)(its:List It):Bool:=(List.range its.length).all fun i=>(List.range its.length).all fun p=>match its[i]? with
 | some (.add x _ _)=>match its[p]? with
  | some (.tn M)=>x.ob.isNone||!(QJ (M.sets.map Prod.fst) x.d)||QdS ops 8 i p
  | _=>true
 | _=>true
section
variable {P:Program}{C:Ctx}{Q:Exit→St→Prop}{ops:Array Oper}{ks:List Fr}{base S:St}{its:List It}
def j0 (its:List It)(k:Nat):Nat:=(QE (its.take k)).length
def Qir (P:Program)(C:Ctx)(ops:Array Oper)(base S:St)(its:List It)(i:Nat)(o:Oper):It→Prop
 | .add x fl nf=>match fl&&!nf with
  | false=>∀σ,Sub σ (bof base ((QE its).take (j0 its i)))→(∀k y fl nf,its[k]? = some (.add y fl nf)→Qet o k=true→Qfq σ y fl (((QE its).take (j0 its i)).drop (j0 its k)))→(x.ob.isSome=true→look σ.hp x.d=none)→QaG P C ops o σ (σ.addF x)
  | true=>∀σ,Sub σ S→(∀k y nf,its[k]? = some (.add y true nf)→Qet o k=true→Qku σ y)→(x.ob.isSome=true→look σ.hp x.d=none)→QaG P C ops o σ (σ.addF x)
 | .tn M=>∀σ,Sub σ (bof base ((QE its).take (j0 its i)))→(∀k y fl nf,its[k]? = some (.add y fl nf)→Qet o k=true→Qfq σ y fl (((QE its).take (j0 its i)).drop (j0 its k)))→QaG P C ops o σ (M.run σ)
theorem Qd3 {listed:Array Bool}(hd:QjF ops listed):∀(n:Nat) {i k:Nat},QdS ops n i k=true→listed[k]? = some true→listed[i]? = some true:=by
 intro n
 induction n with
 | zero=>intro i k h;cases h
 | succ n ih=>
  intro i k h hk
  rw [QdS]at h
  split at h
  ·rename_i o ho
   rw [QcA]at h
   rcases h with h | h
   ·simp only [Qet,List.any_eq_true,Qu]at h
    obtain⟨e,he,hb,hon⟩:=h
    have:=hd k o ho hk e (Qlm.1 he) hb
    rwa [QZ hon]at this
   simp only [List.any_eq_true,Qu]at h
   obtain⟨e,he,hb,hm⟩:=h
   exact ih hm (hd k o ho hk e (Qlm.1 he) hb)
  cases h
theorem Qkl {listed:Array Bool}(hs:listed.size=ops.size)(hd:QjF ops listed){n i k:Nat}(h:QdS ops n i k=true)(hk:k∈Region.ready .any ops listed):listed[i]? = some true:=by
 obtain⟨o,ho,hl,hdeps⟩:=(Qe3 hs).1 hk
 cases n with
 | zero=>cases h
 | succ n=>
  rw [QdS,ho]at h
  dsimp only at h
  rw [QcA]at h
  rcases h with h | h
  ·simp only [Qet,List.any_eq_true,Qu]at h
   obtain⟨e,he,hb,hon⟩:=h
   have:=hdeps e (Qlm.1 he) hb
   rwa [QZ hon]at this
  simp only [List.any_eq_true,Qu]at h
  obtain⟨e,he,hb,hm⟩:=h
  exact Qd3 hd n hm (hdeps e (Qlm.1 he) hb)
theorem QcN : ∀{l m:List It},QE (l++m)=QE l++QE m:=by
 intro l
 induction l with
 | nil=>intro m;rfl
 | cons x l ih=>intro m;cases x<;>simp [QE,ih]
theorem QkZ {ms ns:List Mut}:∀{B:St},bof B (ms++ns)=bof (bof B ms) ns:=by
 induction ms with
 | nil=>intro B;rfl
 | cons M ms ih=>intro B;exact ih
theorem Qnk {its:List It}{i:Nat}{M:Mut}(h:its[i]? = some (.tn M)):(QE its)[j0 its i]? = some M∧(QE its).take (j0 its i+1)=(QE its).take (j0 its i)++[M]:=by
 have hlt:=(Qx.1 h).1
 have e:its=its.take i++(.tn M::its.drop (i+1)):=by
  have:its.drop i=its[i]::its.drop (i+1):=QlX hlt
  have h2:its[i]=.tn M:=by have:=QI hlt;rw [h]at this;exact(Option.some.inj this).symm
  rw [h2]at this
  rw [←this,QkM]
 have e2:QE its=QE (its.take i)++(M::QE (its.drop (i+1))):=by
  conv=>lhs;rw [e]
  rw [QcN];rfl
 unfold j0
 rw [e2]
 refine⟨by simp,?_⟩
 rw [List.take_append,List.take_append]
 simp [Qfi]
theorem Qnl {σ:St}{x:DF}{M:Mut}(hk:Ql3 x M=true)(h:Qku σ x):Qku (M.run σ) x:=by
 unfold Ql3 Ql2 at hk
 rw [Qu]at hk
 refine⟨Mut.keeps_look hk.1 h.1,fun ob hob=>?_⟩
 rw [hob]at hk
 have hk2:=hk.2
 dsimp only at hk2
 rw [Qu]at hk2
 exact Mut.keepsO_look hk2.1 hk2.2 (h.2 ob hob)
theorem Qfq.of {σ:St}{x:DF}{fl:Bool}{ms:List Mut}(h:Qku σ x):Qfq σ x fl ms:=⟨fun _=>h.1,fun _=>h.2⟩
theorem Qfq.run {σ:St}{x:DF}{ms:List Mut}{M:Mut}(h:Qfq σ x false ms):Qfq (M.run σ) x false (ms++[M]):=by
 refine⟨fun hal=>?_,fun hal ob hob=>?_⟩
 ·simp only [alv,Bool.false_or,List.all_append,Qu,Qf7,List.all_nil,Bool.and_true]at hal
  exact Mut.keeps_look hal.2 (h.1 (by simp only [alv,Bool.false_or];exact hal.1))
 simp only [Qie,Bool.false_or,List.all_append,Qu,Qf7,List.all_nil,Bool.and_true]at hal
 have h1:=h.2 (by simp only [Qie,Bool.false_or];exact hal.1) ob hob
 have hk:=hal.2
 unfold Ql2 at hk
 rw [hob]at hk
 dsimp only at hk
 rw [Qu]at hk
 exact Mut.keepsO_look hk.1 hk.2 h1
theorem Qpn {p:Nat}{M:Mut}(h:its[p]? = some (.tn M)):j0 its (p+1)=j0 its p+1:=by
 have hlt:=(Qx.1 h).1
 unfold j0
 rw [QiM,h,QcN];simp [QE]
theorem Ql4 : ∀{a b:Nat},a≤b→j0 its a≤j0 its b:=by
 intro a b h
 unfold j0
 obtain⟨c,rfl⟩:=Nat.exists_eq_add_of_le h
 rw [List.take_add,QcN];simp
theorem Qnm {p i:Nat}{M:Mut}(h:its[p]? = some (.tn M))(hpi:p<i):j0 its p<j0 its i:=by
 have:=Qpn h
 have:=Ql4 (its:=its) (show p+1≤i from hpi)
 omega
theorem Qkb : ∀{its:List It} {c:Nat},c<(QE its).length→∃p M,its[p]? = some (.tn M)∧j0 its p=c:=by
 intro its
 induction its with
 | nil=>intro c h;simp [QE]at h
 | cons it its ih=>
  intro c h
  cases it with
  | add x fl=>
   obtain⟨p,M,h1,h2⟩:=ih (c:=c) h
   exact⟨p+1,M,by simpa using h1,by simpa [j0,QE] using h2⟩
  | tn M=>
   cases c with
   | zero=>exact⟨0,M,rfl,by simp [j0,QE]⟩
   | succ c=>
    obtain⟨p,M',h1,h2⟩:=ih (c:=c) (by simpa [QE] using h)
    exact⟨p+1,M',by simpa using h1,by simpa [j0,QE] using h2⟩
theorem Qmq {p:Nat}{M:Mut}(h:its[p]? = some (.tn M)):j0 its p<(QE its).length:=(Qx.1 (Qnk h).1).1
theorem Sub.stable : ∀{ms:List Mut} {B S:St},QjO ms S=true→Sub B S→∀n,Sub (bof B (ms.take n)) S:=by
 intro ms
 induction ms with
 | nil=>intro B S _ h n;simpa [bof] using h
 | cons M ms ih=>
  intro B S hk h n
  cases n with
  | zero=>exact h
  | succ n=>
   unfold QjO at hk
   rw [Qu,QN,QN]at hk
   refine ih (B:=M.run B) ?_ ⟨fun t v hv=>?_,fun p ob hob=>?_⟩ n
   ·unfold QjO
    rw [Qu,QN,QN]
    exact⟨fun p hp=>by have:=hk.1 p hp;rw [Qf7,Qu]at this;exact this.2,fun p hp=>by have:=hk.2 p hp;rw [Qf7,Qu]at this;exact this.2⟩
   ·have:=hk.1 (t,v) (Qah hv)
    rw [Qf7,Qu]at this
    exact Mut.keeps_look this.1 (h.1 t v hv)
   have:=hk.2 (p,ob) (Qah hob)
   rw [Qf7,Qu,Qu]at this
   exact Mut.keepsO_look this.1.1 this.1.2 (h.2 p ob hob)
theorem Qi5 : ∀{its:List It} {i:Nat} {x:DF} {fl nf:Bool},its[i]? = some (.add x fl nf)→x.d∈Qhj its∧(x.ob.isSome=true→x.d∈Qi4 its):=by
 intro its
 induction its with
 | nil=>intro i x fl nf h;simp at h
 | cons it its ih=>
  intro i x fl nf h
  cases i with
  | zero=>
   simp at h;subst h
   refine⟨Qa1,fun hs=>?_⟩
   rw [Qi4];split
   ·exact Qa1
   rename_i he;rw [he]at hs;cases hs
  | succ i=>
   obtain⟨a,b⟩:=ih (i:=i) (by simpa using h)
   cases it with
   | add y fl' nf'=>
    refine⟨Qbu _ a,fun hs=>?_⟩
    rw [Qi4];split
    ·exact Qbu _ (b hs)
    exact b hs
   | tn M=>exact⟨a,b⟩
theorem Qmr : ∀{its:List It},(Qhj its).Nodup→∀{i k:Nat} {x y:DF} {fl fl' nf nf':Bool},its[i]? = some (.add x fl nf)→its[k]? = some (.add y fl' nf')→x.d=y.d→i=k:=by
 intro its
 induction its with
 | nil=>intro _ i k x y fl fl' nf nf' h;simp at h
 | cons it its ih=>
  intro hn i k x y fl fl' nf nf' hi hk e
  cases it with
  | tn M=>
   cases i with
   | zero=>simp at hi
   | succ i=>cases k with
    | zero=>simp at hk
    | succ k=>rw [ih hn (i:=i) (k:=k) (by simpa using hi) (by simpa using hk) e]
  | add z f g=>
   rw [Qhj,Qfh]at hn
   cases i with
   | zero=>
    cases k with
    | zero=>rfl
    | succ k=>
     simp at hi;obtain⟨rfl,rfl,rfl⟩:=hi
     exact absurd (by rw [e];exact(Qi5 (i:=k) (by simpa using hk)).1) hn.1
   | succ i=>
    cases k with
    | zero=>
     simp at hk;obtain⟨rfl,rfl,rfl⟩:=hk
     exact absurd (by rw [←e];exact(Qi5 (i:=i) (by simpa using hi)).1) hn.1
    | succ k=>rw [ih hn.2 (i:=i) (k:=k) (by simpa using hi) (by simpa using hk) e]
theorem Qoq {M:Mut}{B:St}{t:Nat}{v:V}(h:look (M.run B).fr t=some v):(∃u,look B.fr t=some u)∨∃u,M.put=some (t,u):=by
 have kill:∀{l:List Nat} {B:St} {v:V},look (B.killL l).fr t=some v→∃u,look B.fr t=some u:=by
  intro l
  induction l with
  | nil=>intro B v h;exact⟨v,h⟩
  | cons b l ih=>
   intro B v h
   obtain⟨u,hu⟩:=ih h
   have hu:look (QdB b B.fr) t=some u:=hu
   rw [QfT]at hu
   obtain⟨w,hw,_⟩:=Q8.1 hu
   exact⟨w,hw⟩
 unfold Mut.run at h
 split at h
 ·rw [Qlt]at h;exact .inl (kill h)
 rename_i d u hp
 by_cases e:d=t
 ·subst e;exact .inr ⟨u,hp⟩
 have h:look ((d,u)::((B.killL M.kills).sets M.sets).fr) t=some v:=h
 rw [Ql _ _ e,Qlt]at h;exact .inl (kill h)
theorem QnM {M:Mut}{B:St}{p:Nat}{ob:Ob}(h:look (M.run B).hp p=some ob):(∃u,look B.hp p=some u)∨p∈M.sets.map Prod.fst:=by
 have kill:∀{l:List Nat} {B:St} {ob:Ob},look (B.killL l).hp p=some ob→∃u,look B.hp p=some u:=by
  intro l
  induction l with
  | nil=>intro B ob h;exact⟨ob,h⟩
  | cons b l ih=>
   intro B ob h
   obtain⟨u,hu⟩:=ih h
   have hu:look (Qb4 b B.hp) p=some u:=hu
   rw [Qeh]at hu
   split at hu
   ·cases hu
   obtain⟨w,hw,_⟩:=Q8.1 hu
   exact⟨w,hw⟩
 have sets:∀{l:List (Nat×Ob)} {B:St} {ob:Ob},look (B.sets l).hp p=some ob→(∃u,look B.hp p=some u)∨p∈l.map Prod.fst:=by
  intro l
  induction l with
  | nil=>intro B ob h;exact .inl ⟨ob,h⟩
  | cons q l ih=>
   intro B ob h
   by_cases e:q.1=p
   ·exact .inr (by rw [QbL,e];exact Qa1)
   have h:look ((B.sets l).set q.1 q.2).hp p=some ob:=h
   rw [St.look_set_other _ _ e]at h
   exact(ih h).imp id (Qbu _)
 have h1:look ((B.killL M.kills).sets M.sets).hp p=some ob:=by
  unfold Mut.run at h
  split at h<;>exact h
 rcases sets h1 with⟨u,hu⟩|h2
 ·exact .inl (kill hu)
 exact .inr h2
theorem Qor : ∀{ms:List Mut} {B:St} {t:Nat} {v:V},look (bof B ms).fr t=some v→(∃u,look B.fr t=some u)∨t∈Qd2 ms:=by
 intro ms
 induction ms with
 | nil=>intro B t v h;exact .inl ⟨v,h⟩
 | cons M ms ih=>
  intro B t v h
  rcases ih h with⟨u,hu⟩|h
  ·rcases Qoq hu with h | ⟨u,hp⟩
   ·exact .inl h
   refine .inr ?_;rw [Qd2,hp];exact Qa1
  refine .inr ?_;rw [Qd2];split
  ·exact Qbu _ h
  exact h
theorem QnN : ∀{ms:List Mut} {B:St} {p:Nat} {ob:Ob},look (bof B ms).hp p=some ob→(∃u,look B.hp p=some u)∨p∈Qmo ms:=by
 intro ms
 induction ms with
 | nil=>intro B p ob h;exact .inl ⟨ob,h⟩
 | cons M ms ih=>
  intro B p ob h
  rcases ih h with⟨u,hu⟩|h
  ·rcases QnM hu with h | h
   ·exact .inl h
   exact .inr (QgO _ h)
  exact .inr (List.mem_append_right _ h)
theorem QmP : ∀{ms:List Mut} {n t:Nat},t∈Qd2 (ms.take n)→t∈Qd2 ms:=by
 intro ms
 induction ms with
 | nil=>intro n t h;simpa using h
 | cons M ms ih=>
  intro n t h
  cases n with
  | zero=>simp [Qd2]at h
  | succ n=>
   rw [List.take_succ_cons,Qd2]at h
   rw [Qd2]
   split at h
   ·rcases Qaa.1 h with rfl | h
    ·exact Qa1
    exact Qbu _ (ih h)
   exact ih h
def Qp2 (base:St)(its:List It)(listed:Array Bool)(σ:St):Prop:=∃j,j≤(QE its).length∧(∀p M,its[p]? = some (.tn M)→(listed[p]? = some true↔j0 its p<j))∧Sub σ (bof base ((QE its).take j))∧
 ∀i x fl nf,its[i]? = some (.add x fl nf)→(listed[i]? = some true→Qfq σ x fl (((QE its).take j).drop (j0 its i)))∧(listed[i]? ≠ some true→x.ob.isSome=true→look σ.hp x.d=none)
def Qos (its:List It)(i:Nat):Bool:=match its[i]? with
 | some (.add _ true false)=>true
 | _=>false
def Qpo (ops:Array Oper)(its:List It)(p:Nat):Bool:=QkY its p&&Nat.beq (j0 its p+1) (QE its).length&&(List.range its.length).all fun i=>!Qos its i||QdS ops 8 i p
def Qlv (ops:Array Oper)(its:List It)(ms:List Mut)(S:St):Bool:=QjO ms S||(QjO (ms.take (ms.length-1)) S&&(List.range its.length).any (Qpo ops its))
theorem AK.drawV {id:Nat}(hmix:P.follows .mixedOrders=true)(hlen:its.length=ops.size)(hord:Qlp ops=true)(hov:Qop ops its=true)(hap:Qmp base its=true)(hsv:Qnj ops its=true)(hfk:Qiq (QE its) its=true)(hsk:Qlv ops its (QE its) S=true)(hS:Sub base S)
  (steps:∀i o it,ops[i]? = some o→its[i]? = some it→Qir P C ops base S its i o it)
  (k:∀σ,Sub σ (bof base (QE its))→(∀i x fl nf,its[i]? = some (.add x fl nf)→Qfq σ x fl ((QE its).drop (j0 its i)))→AK P C Q (.x .normal) ks σ):AK P C Q (.c (.region id ops true)) ks base:=by
 simp only [Qmp,Qu,QN,Qfd]at hap
 obtain⟨⟨hnd,hd1⟩,hd2⟩:=hap
 have hnd:=Qdl.1 hnd
 have ord:∀i p it M,its[i]? = some it→its[p]? = some (.tn M)→p≠i→(∀x,it≠.add x true false)→(p<i→QdS ops 8 p i=true)∧(i<p→QdS ops 8 i p=true):=by
  intro i p it M hi hp hne hnf
  have hil:=(Qx.1 hi).1
  have hpl:=(Qx.1 hp).1
  unfold Qop at hov
  rw [QN]at hov
  have h1:=hov i (QeM.2 hil)
  rw [QN]at h1
  have h2:=h1 p (QeM.2 hpl)
  have hm:QkY its p=true:=by unfold QkY;rw [hp]
  have hb:Nat.beq p i=false:=by cases hb:Nat.beq p i with
   | true=>exact absurd (QZ hb) hne
   | false=>rfl
  rw [hm,hb,hi]at h2
  simp only [QgL,Bool.false_or]at h2
  have h3:(bif Nat.ble (p+1) i then QdS ops 8 p i else QdS ops 8 i p)=true:=by
   cases it with
   | add x fl nf=>cases fl with
    | true=>cases nf with
     | false=>exact absurd rfl (hnf x)
     | true=>exact h2
    | false=>exact h2
   | tn M=>exact h2
  refine⟨fun h=>?_,fun h=>?_⟩
  ·rw [show Nat.ble (p+1) i=true from Qfj h]at h3;exact h3
  have:Nat.ble (p+1) i=false:=by cases hc:Nat.ble (p+1) i with
   | true=>have:=QaK hc;omega
   | false=>rfl
  rw [this]at h3;exact h3
 have sets:∀(i p:Nat) (x:DF) (fl nf:Bool) (M:Mut),its[i]? = some (.add x fl nf)→its[p]? = some (.tn M)→x.ob.isSome=true→x.d∈M.sets.map Prod.fst→QdS ops 8 i p=true:=by
  intro i p x fl nf M hi hp hob hmem
  have hil:=(Qx.1 hi).1
  have hpl:=(Qx.1 hp).1
  unfold Qnj at hsv
  rw [QN]at hsv
  have h1:=hsv i (QeM.2 hil)
  rw [QN]at h1
  have h2:=h1 p (QeM.2 hpl)
  rw [hi,hp]at h2
  dsimp only at h2
  rw [Qd0.2 hmem]at h2
  have:x.ob.isNone=false:=by cases hx:x.ob with
   | none=>rw [hx]at hob;cases hob
   | some=>rfl
  rw [this]at h2
  simpa using h2
 have memSets:∀{ms:List Mut} {d:Nat},d∈Qmo ms→∃(c:Nat) (M:Mut),ms[c]? = some M∧d∈M.sets.map Prod.fst:=by
  intro ms
  induction ms with
  | nil=>intro d h;cases h
  | cons N ms ih=>
   intro d h
   rcases Qff.1 h with h | h
   ·exact⟨0,N,rfl,h⟩
   obtain⟨c,M,h1,h2⟩:=ih h;exact⟨c+1,M,by simpa using h1,h2⟩
 refine AK.regionInv (Qp2 base its) hmix ?_ hord ?_ ?_
 ·intro listed σ i o hs hd hi ho ⟨j,hj,hmu,hsub,hadd⟩
  obtain⟨o',ho',hl,hdeps⟩:=(Qe3 hs).1 hi
  rw [ho]at ho';cases ho'
  have hio:i<ops.size:=(Qcn.1 ho).1
  have hil:i<its.length:=by omega
  have hin:i<listed.size:=by omega
  obtain⟨it,hit⟩:∃it,its[i]? = some it:=⟨_,QI hil⟩
  have hnl:listed[i]? ≠ some true:=by rw [hl];simp
  have hst:=steps i o it ho hit
  have depsL:∀{q:Nat},Qet o q=true→listed[q]? = some true:=fun hdep=>by
   simp only [Qet,List.any_eq_true,Qu]at hdep
   obtain⟨e,he,hb,hon⟩:=hdep
   have:=hdeps e (Qlm.1 he) hb
   rwa [QZ hon]at this
  have stage:(∀x,it≠.add x true false)→j=j0 its i:=by
   intro hnf
   apply Nat.le_antisymm
   ·rcases Qbv (j0 its i) j with hlt | h
    ·obtain⟨p,M,hp,hpj⟩:=Qkb (its:=its) (c:=j0 its i) (by omega)
     have hpl:listed[p]? = some true:=(hmu p M hp).2 (by omega)
     rcases Nat.lt_trichotomy p i with h | h | h
     ·have:=Qnm hp h;omega
     ·subst h;exact absurd hpl hnl
     have hm:=(ord i p it M hit hp (by omega) hnf).2 h
     exact absurd (Qd3 hd 8 hm hpl) hnl
    exact h
   rcases Nat.eq_zero_or_pos (j0 its i)with h | h
   ·omega
   have hle:j0 its i≤(QE its).length:=by
    have h1:=Ql4 (its:=its) (show i≤its.length by omega)
    have h2:j0 its its.length=(QE its).length:=by unfold j0;rw [QhH]
    omega
   obtain⟨p,M,hp,hpj⟩:=Qkb (its:=its) (c:=j0 its i-1) (by omega)
   have hpi:p<i:=by
    rcases Nat.lt_trichotomy p i with h' | h' | h'
    ·exact h'
    ·subst h';omega
    have:=Ql4 (its:=its) (Nat.le_of_lt h');omega
   have hm:=(ord i p it M hit hp (by omega) hnf).1 hpi
   have:=(hmu p M hp).1 (Qkl hs hd hm hi)
   omega
  have setL:∀q,(listed.setIfInBounds i true)[q]? = some true↔q=i∨listed[q]? = some true:=fun q=>by
   by_cases e:i=q
   ·subst e;simp [Qju,hin]
   rw [QmZ e];simp [Ne.symm e]
  cases it with
  | tn M=>
   have hjj:=stage fun x e=>by cases e
   subst hjj
   have hM:=Qnk hit
   have hos:QaG P C ops o σ (M.run σ):=hst σ hsub fun q y fl nf hq hdep=>(hadd q y fl nf hq).1 (depsL hdep)
   refine⟨_,hos,j0 its i+1,by have:=Qmq hit;omega,fun p M' hp=>?_,?_,fun q y fl nf hq=>⟨fun hql=>?_,fun hql hob=>?_⟩⟩
   ·rw [setL]
    constructor
    ·rintro (rfl | h)
     ·omega
     have:=(hmu p M' hp).1 h;omega
    intro h
    rcases Qbv (j0 its p) (j0 its i)with h1 | h1
    ·exact .inr ((hmu p M' hp).2 h1)
    left
    rcases Nat.lt_trichotomy p i with h' | h' | h'
    ·have:=Qnm hp h';omega
    ·exact h'
    have:=Qnm hit h';omega
   ·rw [hM.2,QkZ];exact hsub.run M
   ·rcases(setL q).1 hql with rfl | hql
    ·rw [hit]at hq;cases hq
    cases fl with
    | true=>
     have all:∀{l:List It} {ms:List Mut},Qiq ms l=true→∀{q:Nat} {y:DF} {nf:Bool},l[q]? = some (.add y true nf)→ms.all (Ql3 y)=true:=by
      intro l
      induction l with
      | nil=>intro ms _ q y nf h;simp at h
      | cons it l ih=>
       intro ms h q y nf hq
       cases it with
       | add z f g=>
        rw [Qiq,Qu]at h
        cases q with
        | zero=>simp at hq;obtain⟨rfl,rfl,rfl⟩:=hq;simpa using h.1
        | succ q=>exact ih h.2 (by simpa using hq)
       | tn M=>
        cases q with
        | zero=>simp at hq
        | succ q=>exact ih h (by simpa using hq)
     have h1:=all hfk hq
     rw [QN]at h1
     have h2:=(hadd q y true nf hq).1 hql
     exact Qfq.of (Qnl (h1 M (QQ hM.1)) ⟨h2.1 rfl,h2.2 rfl⟩)
    | false=>
     have hle:j0 its q≤j0 its i:=by
      rcases Qbv i q with h | h
      ·have hm:=(ord q i _ M hq hit (by omega) (fun x e=>by cases e)).1 h
       exact absurd (Qd3 hd 8 hm hql) hnl
      exact Ql4 h
     rw [hM.2,List.drop_append_of_le_length (by simp;have:=Qmq hit;omega)]
     exact((hadd q y false nf hq).1 hql).run
   have hqi:q≠i:=fun e=>by subst e;rw [hit]at hq;cases hq
   have hql':listed[q]? ≠ some true:=fun h=>hql ((setL q).2 (.inr h))
   refine Mut.none_look ?_ ((hadd q y fl nf hq).2 hql' hob)
   rw [QN]
   intro r hr
   cases hb:Nat.beq r.1 y.d with
   | false=>rfl
   | true=>
    have hm:=sets q i y fl nf M hq hit hob (by rw [←QZ hb];exact List.mem_map_of_mem hr)
    exact absurd (Qkl hs hd hm hi) hql'
  | add x fl nf=>
   have hfresh:x.ob.isSome=true→look σ.hp x.d=none:=(hadd i x fl nf hit).2 hnl
   have hos:QaG P C ops o σ (σ.addF x):=by
    have hB:¬(fl=true∧nf=false)→(∀σ,Sub σ (bof base ((QE its).take (j0 its i)))→(∀k y fl nf,its[k]? = some (.add y fl nf)→Qet o k=true→Qfq σ y fl (((QE its).take (j0 its i)).drop (j0 its k)))→(x.ob.isSome=true→look σ.hp x.d=none)→QaG P C ops o σ (σ.addF x))→QaG P C ops o σ (σ.addF x):=fun hne hst=>by
     have hjj:=stage fun y e=>by cases e;exact hne ⟨rfl,rfl⟩
     subst hjj
     exact hst σ hsub (fun q y fl nf hq hdep=>(hadd q y fl nf hq).1 (depsL hdep)) hfresh
    cases fl with
    | true=>cases nf with
     | false=>
      have h1:Sub base S:=hS
      have h2:Sub (bof base ((QE its).take j)) S:=by
       unfold Qlv at hsk
       rw [QcA]at hsk
       rcases hsk with hsk | hsk
       ·exact Sub.stable hsk h1 j
       rw [Qu,List.any_eq_true]at hsk
       obtain⟨hs1,p,_,hp⟩:=hsk
       unfold Qpo at hp
       simp only [Qu]at hp
       obtain⟨⟨p1,p2⟩,p3⟩:=hp
       have hjm:j≤(QE its).length-1:=by
        rcases Qbv ((QE its).length-1) j with hlt | h
        ·exfalso
         obtain⟨M,hM⟩:∃M,its[p]? = some (.tn M):=by
          unfold QkY at p1
          split at p1
          ·exact⟨_,‹_›⟩
          cases p1
         have p2:=QZ p2
         have hpl:=(hmu p M hM).2 (by omega)
         have h3:=QN.1 p3 i (QeM.2 hil)
         have hf:Qos its i=true:=by unfold Qos;rw [hit]
         rw [hf]at h3
         exact absurd (Qd3 hd 8 h3 hpl) hnl
        exact h
       have h4:=Sub.stable hs1 h1 j
       rwa [List.take_take,Nat.min_eq_left hjm]at h4
      exact hst σ ⟨fun t v h=>hsub.1 t v (h2.1 t v h),fun p ob h=>hsub.2 p ob (h2.2 p ob h)⟩ (fun q y nf hq hdep=>let h2:=(hadd q y true nf hq).1 (depsL hdep);⟨h2.1 rfl,h2.2 rfl⟩) hfresh
     | true=>exact hB (fun e=>by cases e.2) hst
    | false=>exact hB (fun e=>by cases e.1) hst
   obtain⟨hmd,hmo⟩:=Qi5 hit
   have frK:∀t v,t≠x.d→look σ.fr t=some v→look (σ.addF x).fr t=some v:=by
    intro t v hne h
    unfold St.addF
    split
    ·show look ((x.d,x.v)::σ.fr) t=some v
     rw [Ql _ _ (Ne.symm hne)];exact h
    show look ((x.d,x.v)::σ.fr) t=some v
    rw [Ql _ _ (Ne.symm hne)];exact h
   have hpK:∀p,(p≠x.d∨x.ob=none)→look (σ.addF x).hp p=look σ.hp p:=by
    intro p hne
    unfold St.addF
    split
    ·rfl
    rename_i ob hob
    rcases hne with hne | hne
    ·exact σ.look_set_other _ (Ne.symm hne)
    rw [hob]at hne;cases hne
   refine⟨_,hos,j,hj,fun p M hp=>?_,⟨fun t v h=>?_,fun p ob h=>?_⟩,fun q y fl' nf' hq=>⟨fun hql=>?_,fun hql hob=>?_⟩⟩
   ·rw [setL,←hmu p M hp]
    have:p≠i:=fun e=>by subst e;rw [hit]at hp;cases hp
    simp [this]
   ·refine frK t v (fun e=>?_) (hsub.1 t v h)
    subst e
    have h1:=hd1 _ hmd
    rcases Qor h with⟨u,hu⟩|h2
    ·rw [Qhe hu]at h1;cases h1.1
    rw [Qd0.2 (QmP h2)]at h1;cases h1.2
   ·have hne:p≠x.d∨x.ob=none:=by
     cases hob:x.ob with
     | none=>exact .inr rfl
     | some ob'=>
      refine .inl fun e=>?_
      subst e
      have hob':x.ob.isSome=true:=by rw [hob];rfl
      have h1:=hd2 _ (hmo hob')
      rcases QnN h with⟨u,hu⟩|h2
      ·rw [Qhe hu]at h1;cases h1
      obtain⟨c,M,h3,h4⟩:=memSets h2
      have hc:c<j:=by
       have:=(Qx.1 h3).1
       simp at this;omega
      have h3':(QE its)[c]? = some M:=by rw [List.getElem?_take_of_lt hc]at h3;exact h3
      obtain⟨p',M',hp',hpc⟩:=Qkb (its:=its) (c:=c) (Qx.1 h3').1
      have h5:=(Qnk hp').1
      rw [hpc,h3']at h5;cases h5
      have hm:=sets i p' x fl nf M hit hp' hob' h4
      exact absurd (Qd3 hd 8 hm ((hmu p' M hp').2 (by omega))) hnl
    rw [hpK p hne];exact hsub.2 p ob h
   ·by_cases e:q=i
    ·subst e
     rw [hit]at hq;cases hq
     refine Qfq.of ⟨?_,fun ob hob=>?_⟩
     ·unfold St.addF
      split<;>exact Qn _ _ _
     unfold St.addF
     rw [hob];exact Qn _ _ _
    have hql':listed[q]? = some true:=((setL q).1 hql).resolve_left e
    obtain⟨h1,h2⟩:=(hadd q y fl' nf' hq).1 hql'
    have hne:y.d≠x.d:=fun h=>e (Qmr hnd hq hit h)
    exact⟨fun hal=>frK _ _ hne (h1 hal),fun hal ob hob=>by rw [hpK _ (.inl hne)];exact h2 hal ob hob⟩
   have e:q≠i:=fun e=>hql ((setL q).2 (.inl e))
   have hql':listed[q]? ≠ some true:=fun h=>hql ((setL q).2 (.inr h))
   have hne:y.d≠x.d:=fun h=>e (Qmr hnd hq hit h)
   rw [hpK _ (.inl hne)];exact(hadd q y fl' nf' hq).2 hql' hob
 ·refine⟨0,Nat.zero_le _,fun p M _=>by simp [Array.getElem?_replicate],⟨fun _ _ h=>h,fun _ _ h=>h⟩,fun i x fl nf hi=>⟨fun h=>by simp [Array.getElem?_replicate]at h,fun _ hob=>?_⟩⟩
  have h1:=hd2 _ ((Qi5 hi).2 hob)
  cases h:look base.hp x.d with
  | none=>rfl
  | some ob=>rw [Qhe h]at h1;cases h1
 intro listed σ hs hall ⟨j,hj,hmu,hsub,hadd⟩
 have hjt:j=(QE its).length:=by
  rcases Qbv j (QE its).length with h | h
  ·obtain⟨p,M,hp,hpj⟩:=Qkb (its:=its) h
   have:=(hmu p M hp).1 (hall p (by have:=(Qx.1 hp).1;omega))
   omega
  omega
 subst hjt
 rw [QhH]at hsub
 refine k σ hsub fun i x fl nf hi=>?_
 have:=(hadd i x fl nf hi).1 (hall i (by have:=(Qx.1 hi).1;omega))
 rwa [QhH]at this
end
inductive MD where
 | s
 | st (r:List V) (rs:List (List V))
 | app (rs:List (List V)) (m:Nat)
 | any (M:Mut)
 | cm (en:Ent) (M N:List (Nat×Nat)) (dead:List Nat) (ms:List Mode) (outs:List (Nat×Ob)) (r:V) (same:List Nat)
inductive Dw where
 | a (h:Qd1) (sv:Option (List (Option Nat)×V)) (fl:Bool) (nf:Bool:=false)
 | m (md:MD)
def Qot (P:Program)(T:Tab)(f:Operand→Option V)(hp:Nat→Option Ob)(c:Call):Ent→Option (Nat×List V×Prop)
 | .fn=>match c.callee with
  | .value (.func g)=>bif QJ T.en g then match evs f c.args.toList with
   | some vs=>some (g,vs,True)
   | none=>none
   else none
  | _=>none
 | .clo=>match c.callee with
  | .value x=>match f x with
   | some (.clo (.func g) fs cs)=>bif QJ T.en g then match evs f c.args.toList with
    | some vs=>some (g,fs++(vs++cs),True)
    | none=>none
    else none
   | _=>none
  | _=>none
 | .me g=>match c.callee with
  | .invoke x name=>match f x with
   | some (.ifc t u)=>bif QJ T.en g then match evs f c.args.toList with
    | some vs=>some (g,u::vs,(QcD P t name=some (g,true)∧Qkv P t=true)∨(QcD P t name=some (g,false)∧Qhg P t=true))
    | none=>none
    else none
   | _=>none
  | _=>none
 | .mv g e=>match c.callee with
  | .invoke x name=>match f x with
   | some (.ifc t (.loc b 0 off))=>match hp b with
    | some (.var cs)=>match cs[off]? with
     | some r=>bif QJ T.en g then match evs f c.args.toList with
      | some vs=>some (g,r::vs,QcD P t name=some (g,false)∧QhO P t e=true∧QbR P e=some false)
      | none=>none
      else none
     | none=>none
    | _=>none
   | _=>none
  | _=>none
theorem Qnn {P:Program}{C:Ctx}{T:Tab}{f:Operand→Option V}{hp:Nat→Option Ob}{o:Oper}{c:Call}{en:Ent}{g:Nat}{vs:List V}{ψ:Prop}{σ:St}(ok:Qbl P T)(ho:o.op=.call c)(e:Qot P T f hp c en=some (g,vs,ψ))(hφ:ψ)
  (h1:∀x u,f x=some u→σ.opd x=some u) (h2:∀b u,hp b=some u→look σ.hp b=some u):Qaj P C o σ g vs:=by
 obtain⟨ce,ags,ts⟩:=c
 unfold Qot at e
 split at e
 ·split at e
  ·rename_i f' hc
   dsimp only at hc;subst hc
   replace e:=QO e;obtain⟨e1,e⟩:=e
   split at e
   ·rename_i vs' hv;cases e;exact Qaj.fn ho (ok.en e1) (Qcr h1 hv)
   cases e
  cases e
 ·split at e
  ·rename_i x hc
   dsimp only at hc;subst hc
   split at e
   ·rename_i f' fs cs hx
    replace e:=QO e;obtain⟨e1,e⟩:=e
    split at e
    ·rename_i vs' hv;cases e;exact Qaj.clo ho (h1 _ _ hx) (ok.en e1) (Qcr h1 hv)
    cases e
   cases e
  cases e
 ·split at e
  ·rename_i x name hc
   dsimp only at hc;subst hc
   split at e
   ·rename_i t u hx
    replace e:=QO e;obtain⟨e1,e⟩:=e
    split at e
    ·rename_i vs' hv;cases e;exact Qaj.meth (r:=u) ho (h1 _ _ hx) hφ (ok.en e1) (Qcr h1 hv)
    cases e
   cases e
  cases e
 split at e
 ·rename_i x name hc
  dsimp only at hc;subst hc
  split at e
  ·rename_i t b off hx
   split at e
   ·rename_i cs hb
    split at e
    ·rename_i r hr0
     replace e:=QO e;obtain⟨e1,e⟩:=e
     split at e
     ·rename_i vs' hv;cases e;exact Qaj.methV ho (h1 _ _ hx) hφ.1 hφ.2.1 hφ.2.2 (h2 _ _ hb) hr0 (ok.en e1) (Qcr h1 hv)
     cases e
    cases e
   cases e
  cases e
 cases e
theorem QnO {bk:Nat→Option Nat}{hp hp':Nat→Option Ob}(h:∀b u,hp b=some u→hp' b=some u):∀{M:List (Nat×Nat)} {l:List (Nat×Ob)},QgC bk hp M=some l→QgC bk hp' M=some l:=by
 intro M
 induction M with
 | nil=>intro l e;exact e
 | cons p M ih=>
  obtain⟨d,s⟩:=p
  intro l e
  rw [QgC]at e ⊢
  split at e
  ·rename_i ob hob
   split at e
   ·rename_i ob' hob'
    split at e
    ·rename_i l' hl
     simp only [h _ _ hob,hob',ih hl];exact e
    cases e
   cases e
  cases e
theorem Qno {σ:St}{M N:List (Nat×Nat)}{dead:List Nat}{outs:List (Nat×Ob)}(h:QdC ⟨[],N.map fun p=>(p.1,Ob.itr0)⟩ M N dead outs=true):QdC σ M N dead outs=true:=by
 simp only [QdC,Qu,QN]at h ⊢
 obtain⟨⟨h1,h2⟩,h3⟩:=h
 refine⟨⟨h1,h2⟩,fun p hp=>⟨⟨?_,(h3 p hp).1.2⟩,(h3 p hp).2⟩⟩
 have hn:∀{l:List (Nat×Nat)},p∈l→(look (l.map fun p=>(p.1,Ob.itr0)) p.1).isNone=false:=by
  intro l hp
  induction l with
  | nil=>cases hp
  | cons q l ih=>
   show(look ((q.1,Ob.itr0)::l.map fun p=>(p.1,Ob.itr0)) p.1).isNone=false
   by_cases e:q.1=p.1
   ·rw [e,Qn];rfl
   rw [Ql _ _ e]
   refine ih ?_
   rcases Qaa.1 hp with h | h
   ·exact absurd (congrArg Prod.fst h).symm e
   exact h
 have h4:=(h3 p hp).1.1
 rw [hn hp,Bool.or_false]at h4
 rw [h4];rfl
theorem Qi6 {σ:St}(dead:List Nat):∀(l:List (Nat×Ob)),(σ.killL dead).sets l=σ.after dead l:=by
 intro l
 induction l with
 | nil=>rfl
 | cons p l ih=>rw [St.sets,ih];rfl
def Qnp (hp:Nat→Option Ob)(hsN:List (Nat×Ob)):List Nat→Prop
 | []=>True
 | b::r=>hp b=look hsN b∧Qnp hp hsN r
theorem QnP {hp:Nat→Option Ob}{hsN:List (Nat×Ob)}:∀{l:List Nat},Qnp hp hsN l→∀b,QJ l b=true→hp b=look hsN b:=by
 intro l
 induction l with
 | nil=>intro _ b h;cases h
 | cons a l ih=>
  intro h b hb
  rw [QJ]at hb
  cases e:Nat.beq a b with
  | true=>rw [←QZ e];exact h.1
  | false=>rw [e]at hb;exact ih h.2 b (by simpa using hb)
theorem QmQ {same:List Nat}:∀{l:List (Nat×Ob)} {b:Nat},look (l.filter fun p=>!(QJ same p.1)) b=if QJ same b=true then none else look l b:=by
 intro l
 induction l with
 | nil=>intro b;simp [look]
 | cons p l ih=>
  intro b
  rw [QdM]
  by_cases e:p.1=b
  ·subst e
   cases h:QJ same p.1 with
   | true=>
    simp only [QgL,Bool.false_eq_true,if_false]
    rw [ih,h];simp
   | false=>
    simp only [Bool.not_false,if_true,Bool.false_eq_true,if_false]
    obtain⟨k,v⟩:=p
    rw [Qn,Qn]
  cases h:QJ same p.1 with
  | true=>
   simp only [QgL,Bool.false_eq_true,if_false]
   rw [ih,Ql (k:=p.1) p.2 l e]
  | false=>
   simp only [Bool.not_false,if_true]
   rw [Ql (k:=p.1) p.2 _ e,ih,Ql (k:=p.1) p.2 l e]
theorem R.congrHp {C:Ctx}{σ σ':St}(hf:σ'.fr=σ.fr)(hh:∀o,look σ'.hp o=look σ.hp o){a:Act}{w:World}(hR:R C σ a w):R C σ' a w:=by
 obtain⟨φ,h⟩:=hR
 exact⟨φ,h.os,h.tape,h.output,h.size,h.kept,h.inj,fun o B hB=>by rw [hh];exact h.dom o B hB,h.lt,h.new,⟨h.stay.1,fun o ob B h1 h2 h3=>h.stay.2 o ob B h1 (by rw [←hh];exact h2) h3⟩,h.tmps,h.defers,fun t v hv=>h.frame t v (by rw [←hf];exact hv),fun o ob hob=>h.heap o ob (by rw [←hh];exact hob)⟩
def mu1 (P:Program)(C:Ctx)(T:Tab)(n:Nat)(md:MD)(o:Oper)(f:Operand→Option V)(hp:Nat→Option Ob):Option (Mut×Option Prop):=match md with
 | .cm en M N dead ms outs r same=>match o.dst with
  | some d=>match o.op with
   | .call c=>bif QdC ⟨[],N.map fun p=>(p.1,Ob.itr0)⟩ M N dead outs&&Qfn (M.map Prod.fst)&&Qfn (N.map Prod.fst)&&Nat.ble (d+1) n then match Qot P T f hp c en with
    | some (g,vs,ψ)=>match Qi2 (bkM M) ms vs with
     | some us=>match QgC (bkM M) hp M with
      | some hsC=>match QgC (bkM N) (look outs) N with
       | some hsN=>match trV (bkM N) r with
        | some r'=>match same with
         | []=>some (⟨dead,hsN,some (d,r')⟩,some (ψ∧Qh P g us hsC (Qp r outs)))
         | _=>match dead with
          | []=>some (⟨[],hsN.filter (fun p=>!(QJ same p.1)),some (d,r')⟩,some ((ψ∧Qh P g us hsC (Qp r outs))∧Qnp hp hsN same))
          | _=>none
        | none=>none
       | none=>none
      | none=>none
     | none=>none
    | none=>none
    else none
   | _=>none
  | none=>none
 | .any M=>some (M,some (∀σ:St,(∀x u,f x=some u→σ.opd x=some u)→(∀b u,hp b=some u→look σ.hp b=some u)→Stp P C o σ (M.run σ)))
 | .s=>match o.dst with
  | some d=>match o.op with
   | .assign x=>match f x with
    | some v=>bif Nat.ble (d+1) n then some (⟨[],[],some (d,v)⟩,none)else none
    | none=>none
   | .move x=>match f x with
    | some v=>bif Nat.ble (d+1) n then some (⟨[],[],some (d,v)⟩,none)else none
    | none=>none
   | _=>none
  | none=>match o.op with
   | .store Tx x y=>match f x with
    | some (.loc b i off)=>match f y with
     | some v=>match hp b with
      | some (.var cs)=>match i with
       | 0=>match look T.sz Tx with
        | some k=>bif v.isV&&Nat.beq v.cells.length k&&v.cells.all V.one&&Nat.ble (off+k) cs.length then some (⟨[],[(b,.var (Qa2 cs off v.cells))],none⟩,none)else none
        | none=>none
       | _=>none
      | _=>none
     | none=>none
    | _=>none
   | _=>none
 | .st r rs'=>match o.dst with
  | some _=>none
  | none=>match o.op with
   | .store Tx x y=>match f x with
    | some (.loc b i off)=>match f y with
     | some v=>match hp b with
      | some (.arr z rs)=>match look T.sz Tx with
       | some k=>bif v.isV&&Nat.beq v.cells.length k&&v.cells.all V.one&&v.cells.all V.dat&&Nat.ble (off+k) z then some (⟨[],[(b,.arr z rs')],none⟩,some (rs[i]? = some r∧rs.set i (Qa2 r off v.cells)=rs'))else none
       | none=>none
      | _=>none
     | none=>none
    | _=>none
   | _=>none
 | .app rs' m=>match o.dst with
  | some d=>match o.op with
   | .call c=>match c.callee with
    | .builtin .append=>match c.args.toList with
     | [x,y]=>match c.argTypes.toList with
      | [Tx,Ty]=>match f x with
       | some (.own b k)=>match f y with
        | some v=>match hp b with
         | some (.arr z rs)=>match look T.es Tx with
          | some (e,z',by_)=>match look T.zv e with
           | some zs=>bif (look T.es Ty).isSome&&Nat.ble (d+1) n&&!(Nat.ble 607 b)&&Nat.beq z z'&&Nat.beq zs.length z&&!(Nat.beq z 0)&&Nat.ble by_ 32768 then match v with
            | .sl z'' us=>bif Nat.beq z z'' then some (⟨[b],[(b,.arr z rs')],some (d,.own b m)⟩,some (rs.length=k∧decide (k+us.length≤4294967296)=true∧rs++us=rs'∧k+us.length=m))else none
            | _=>none
            else none
           | none=>none
          | none=>none
         | _=>none
        | none=>none
       | _=>none
      | _=>none
     | _=>none
    | _=>none
   | _=>none
  | none=>none
def Qgf (obj:Bool)(o:Oper)(t:Nat)(fo:Bool)(ms:List Mut):List (It×Nat)→Nat→Option DF
 | (.add x fl _,j)::r,i+1=>bif Nat.beq x.d t&&Qet o i&&(bif fo then fl else bif obj then Qie x fl (ms.drop j)else alv x fl (ms.drop j))then some x else Qgf obj o t fo ms r i
 | (.tn _,_)::r,i+1=>Qgf obj o t fo ms r i
 | _,_=>none
def Qhk (B:St)(fo:Bool)(ms:List Mut)(ri:List (It×Nat))(i:Nat)(o:Oper):Operand→Option V
 | .tmp t=>match look B.fr t with
  | some v=>some v
  | none=>match Qgf false o t fo ms ri i with
   | some x=>some x.v
   | none=>none
 | x=>B.opd x
def Qi7 (B:St)(fo:Bool)(ms:List Mut)(ri:List (It×Nat))(i:Nat)(o:Oper)(b:Nat):Option Ob:=match look B.hp b with
 | some ob=>some ob
 | none=>match Qgf true o b fo ms ri i with
  | some x=>x.ob
  | none=>none
structure Dr where
 ri:List (It×Nat)
 ms:List Mut
 B:St
 φ:Prop
def QcV (P:Program)(C:Ctx)(T:Tab)(n:Nat)(ops:Array Oper)(S:St):List Dw→List Oper→Nat→List (It×Nat)→List Mut→St→Prop→Option Dr
 | [],_,_,ri,ms,B,φ=>some ⟨ri,ms,B,φ⟩
 | .a h sv fl nf::ds,o::l,i,ri,ms,B,φ=>match Qca ops o (fun t=>Qhk (bif fl&&!nf then S else B) (fl&&!nf) ms ri i o (.tmp t))with
  | some true=>match o.dst with
   | some d=>bif Nat.ble (d+1) n then match ev1 P C T h o d (Qhk (bif fl&&!nf then S else B) (fl&&!nf) ms ri i o) (Qi7 (bif fl&&!nf then S else B) (fl&&!nf) ms ri i o)with
    | some ⟨v,ob,q⟩=>match sv with
     | none=>QcV P C T n ops S ds l (i+1) ((.add ⟨d,v,ob⟩ fl nf,ms.length)::ri) ms B (Qhh φ q)
     | some (mm,u)=>QcV P C T n ops S ds l (i+1) ((.add ⟨d,u,ob⟩ fl nf,ms.length)::ri) ms B (Qhh φ q∧v.denil mm=u)
    | none=>none
    else none
   | none=>none
  | some false=>match o.dst with
   | some d=>bif Nat.ble (d+1) n then QcV P C T n ops S ds l (i+1) ((.add ⟨d,.lit undef,none⟩ fl nf,ms.length)::ri) ms B φ else none
   | none=>none
  | none=>none
 | .m md::ds,o::l,i,ri,ms,B,φ=>match Qca ops o (fun t=>Qhk B false ms ri i o (.tmp t))with
  | some true=>match mu1 P C T n md o (Qhk B false ms ri i o) (Qi7 B false ms ri i o)with
   | some (M,q)=>QcV P C T n ops S ds l (i+1) ((.tn M,ms.length)::ri) (ms++[M]) (M.run B) (Qhh φ q)
   | none=>none
  | _=>none
 | _::_,[],_,_,_,_,_=>none
def Q5 (ri:List (It×Nat)):List It:=(ri.map Prod.fst).reverse
section
variable {P:Program}{C:Ctx}{T:Tab}{Q:Exit→St→Prop}{n:Nat}{ops:Array Oper}{base S:St}{ks:List Fr}
theorem QnQ {md:MD}{o:Oper}{f:Operand→Option V}{hp:Nat→Option Ob}{M:Mut}{q:Option Prop}{σ:St}(ok:Qbl P T)(hN:QcC P C n)(e:mu1 P C T n md o f hp=some (M,q))(hq:match q with | none=>True | some p=>p)
  (h1:∀x u,f x=some u→σ.opd x=some u) (h2:∀b u,hp b=some u→look σ.hp b=some u):Stp P C o σ (M.run σ):=by
 have hn:=hN.n
 have hpg:=hN.g
 unfold mu1 at e
 cases md with
 | any M0=>cases e;exact hq σ h1 h2
 | cm en M0 N dead ms outs r same=>
  dsimp only at e
  split at e
  ·rename_i d hd
   split at e
   ·rename_i c ho
    replace e:=QO e;obtain⟨e1,e⟩:=e
    simp only [Qu]at e1
    obtain⟨⟨⟨g1,g2⟩,g3⟩,g4⟩:=e1
    rw [←hn]at g4
    have g1:=Qno (σ:=σ) g1
    have g2:=Qdl.1 g2
    have g3:=Qdl.1 g3
    have inj:QfR M0=true∧QfR N=true:=by
     simp only [QdC,Qu]at g1
     exact⟨g1.1.1.1,g1.1.1.2⟩
    have mM:∀a b,bkM M0 a=some b→look M0 b=some a:=fun a b h=>Qcq inj.1 (Qg5 h) g2
    have mN:∀a b,bkM N a=some b→look N b=some a:=fun a b h=>Qcq inj.2 (Qg5 h) g3
    split at e
    ·rename_i g vs ψ hent
     split at e
     ·rename_i us hus
      split at e
      ·rename_i hsC hC
       split at e
       ·rename_i hsN hN
        split at e
        ·rename_i r' hr
         have call:ψ∧Qh P g us hsC (Qp r outs)→Stp P C o σ ((σ.after dead hsN).put d r'):=fun hq=>
          Stp.callM (g:=false) (Qnn (C:=C) ok ho hent hq.1 h1 h2) hd g4 hpg g1 g2 (Qic mM hus) (Qeg mM (QnO h2 hC)) hq.2 (Qeg mN hN) (Qgk mN hr)
         split at e
         ·cases e
          unfold Mut.run
          dsimp only
          rw [Qi6];exact call hq
         split at e
         ·cases e
          obtain⟨hq1,hq2⟩:=hq
          intro a w hR K Q hK
          refine call hq1 a w hR K Q fun a' w' hR'=>hK a' w' (R.congrHp ?_ (fun o=>?_) hR')
          ·unfold Mut.run;dsimp only;rw [Qi6];rfl
          unfold Mut.run;dsimp only;rw [Qi6]
          show look (_++σ.hp) o=look (_++σ.hp) o
          rw [Qck,Qck,QmQ]
          by_cases hm:QJ same o=true
          ·rw [if_pos hm]
           have:=QnP hq2 o hm
           cases hl:look hsN o with
           | none=>rfl
           | some ob=>rw [hl]at this;exact h2 o ob this
          rw [if_neg hm]
         cases e
        cases e
       cases e
      cases e
     cases e
    cases e
   cases e
  cases e
 | s=>
  dsimp only at e
  split at e
  ·rename_i d hd
   split at e
   ·rename_i x ho
    split at e
    ·rename_i v hv
     replace e:=QO e;obtain⟨e1,e⟩:=e
     rw [←hn]at e1
     cases e;exact Stp.assign ho hd e1 (h1 _ _ hv)
    cases e
   ·rename_i x ho
    split at e
    ·rename_i v hv
     replace e:=QO e;obtain⟨e1,e⟩:=e
     rw [←hn]at e1
     cases e;exact Stp.move ho hd e1 (h1 _ _ hv)
    cases e
   cases e
  rename_i hd
  split at e
  ·rename_i Tx x y ho
   split at e
   ·rename_i b i off hx
    split at e
    ·rename_i v hv
     split at e
     ·rename_i cs hb
      split at e
      ·split at e
       ·rename_i k hk
        replace e:=QO e;obtain⟨e2,e⟩:=e
        cases e
        simp only [Qu]at e2
        obtain⟨⟨⟨a1,a2⟩,a3⟩,a4⟩:=e2
        exact Stp.storeL ho hd (h1 _ _ hx) (h2 _ _ hb) (h1 _ _ hv) (V.isV_or a1) (ok.sz hk) (QZ a2) a3 a4 rfl
       cases e
      cases e
     cases e
    cases e
   cases e
  cases e
 | st r rs'=>
  dsimp only at e
  split at e
  ·cases e
  rename_i hd
  split at e
  ·rename_i Tx x y ho
   split at e
   ·rename_i b i off hx
    split at e
    ·rename_i v hv
     split at e
     ·rename_i z rs hb
      split at e
      ·rename_i k hk
       replace e:=QO e;obtain⟨e2,e⟩:=e
       cases e
       simp only [Qu]at e2
       obtain⟨⟨⟨⟨a1,a2⟩,a3⟩,a4⟩,a5⟩:=e2
       exact Stp.storeA ho hd (h1 _ _ hx) (h2 _ _ hb) hq.1 (h1 _ _ hv) (V.isV_or a1) (ok.sz hk) (QZ a2) a3 a4 a5 hq.2
      cases e
     cases e
    cases e
   cases e
  cases e
 | app rs' m=>
  dsimp only at e
  split at e
  ·rename_i d hd
   split at e
   ·rename_i c ho
    obtain⟨ce,ags,ts⟩:=c
    split at e
    ·rename_i hce
     dsimp only at hce e;subst hce
     split at e
     ·rename_i x y hxy
      split at e
      ·rename_i Tx Ty hT
       split at e
       ·rename_i b k hx
        split at e
        ·rename_i v hv
         split at e
         ·rename_i z rs hb
          split at e
          ·rename_i et z' by_ hes
           split at e
           ·rename_i zs hz
            replace e:=QO e;obtain⟨e1,e⟩:=e
            simp only [Qu,Qfd]at e1
            obtain⟨⟨⟨⟨⟨⟨a1,a2⟩,a3⟩,a4⟩,a5⟩,a6⟩,a7⟩:=e1
            have a4:=QZ a4;subst a4
            have a5:=QZ a5
            have a6:z≠0:=fun h0=>by rw [h0]at a6;cases a6
            rw [←hn]at a2
            obtain⟨⟨e2,z2,by2⟩,hU⟩:∃q,QR P Ty=some q:=by
             cases hl:look T.es Ty with
             | none=>rw [hl]at a1;cases a1
             | some q=>exact⟨q,ok.es hl⟩
            have ea:ags=#[x,y]:=by rw [←QhF (xs:=ags),hxy]
            have et:ts=#[Tx,Ty]:=by rw [←QhF (xs:=ts),hT]
            subst ea;subst et
            split at e
            ·rename_i z'' us
             replace e:=QO e;obtain⟨e3,e⟩:=e
             have:=QZ e3;subst this
             cases e
             obtain⟨h4,h5,h6,h7⟩:=hq
             exact Stp.appS ho hd a2 (h1 _ _ hx) (h2 _ _ hb) a3 h4 (ok.es hes) hU (ok.zv hz) a5 a6 a7 h5 (h1 _ _ hv) h6 h7
            cases e
           cases e
          cases e
         cases e
        cases e
       cases e
      cases e
     cases e
    cases e
   cases e
  cases e
theorem QjP {obj:Bool}{o:Oper}{t:Nat}{fo:Bool}{ms:List Mut}:∀{ri:List (It×Nat)} {i:Nat} {x:DF},i=ri.length→Qgf obj o t fo ms ri i=some x→
  ∃k fl nf j,ri.reverse[k]? = some (.add x fl nf,j)∧Qet o k=true∧x.d=t∧(bif fo then fl else bif obj then Qie x fl (ms.drop j)else alv x fl (ms.drop j))=true:=by
 intro ri
 induction ri with
 | nil=>intro i x hi h;subst hi;cases h
 | cons y ri ih=>
  intro i x hi h
  subst hi
  have up:∀{x:DF},(∃k fl nf j,ri.reverse[k]? = some (.add x fl nf,j)∧Qet o k=true∧x.d=t∧(bif fo then fl else bif obj then Qie x fl (ms.drop j)else alv x fl (ms.drop j))=true)→∃k fl nf j,(y::ri).reverse[k]? = some (.add x fl nf,j)∧Qet o k=true∧x.d=t∧(bif fo then fl else bif obj then Qie x fl (ms.drop j)else alv x fl (ms.drop j))=true:=by
   rintro x ⟨k,fl,nf,j,h1,h2⟩
   refine⟨k,fl,nf,j,?_,h2⟩
   rw [List.reverse_cons,Qay (Qx.1 h1).1];exact h1
  obtain⟨it,j⟩:=y
  cases it with
  | tn M=>rw [Qf8,Qgf]at h;exact up (ih rfl h)
  | add z fl nf=>
   rw [Qf8,Qgf]at h
   cases hb:(Nat.beq z.d t&&Qet o ri.length&&(bif fo then fl else bif obj then Qie z fl (ms.drop j)else alv z fl (ms.drop j)))with
   | true=>
    rw [hb]at h;cases h
    simp only [Qu]at hb
    exact⟨ri.length,fl,nf,j,by simp,hb.1.2,QZ hb.1.1,hb.2⟩
   | false=>rw [hb]at h;exact up (ih rfl h)
theorem Qi8 {o:Oper}{f:Nat→Option V}{σ:St}{b:Bool}(hw:Qca ops o f=some b)(hx:∀t u,f t=some u→look σ.fr t=some u):Qca ops o (look σ.fr)=some b:=by
 unfold Qca at hw ⊢
 cases hg:o.guard with
 | none=>simp only [hg]at hw ⊢;exact hw
 | some p=>
  obtain⟨j,t⟩:=p
  simp only [hg]at hw ⊢
  cases hj:ops[j]? with
  | none=>simp only [hj]at hw;cases hw
  | some oj=>
   simp only [hj]at hw ⊢
   cases hd:oj.dst with
   | none=>simp only [hd]at hw;cases hw
   | some d=>
    simp only [hd]at hw ⊢
    cases hf:f d with
    | none=>simp only [hf]at hw;cases hw
    | some v=>
     have:=hx d v hf
     simp only [hf]at hw
     simp only [this]
     exact hw
theorem QaG.want {o:Oper}{σ σ':St}(h:Qca ops o (look σ.fr)=some true)(hs:Stp P C o σ σ'):QaG P C ops o σ σ':=by
 rcases Qgi h with⟨hg,_⟩|⟨j,t,d',hg,hj,⟨u,hu,hb⟩|⟨_,hb⟩⟩
 ·exact QaG.run hg hs
 ·exact QaG.runG hg hj hu (by simpa using hb.symm) hs
 cases hb
theorem QaG.unwant {o:Oper}{σ:St}{d:Nat}(h:Qca ops o (look σ.fr)=some false)(hd:o.dst=some d)(hn:Nat.ble (d+1) C.n=true):QaG P C ops o σ (σ.put d (.lit undef)):=by
 rcases Qgi h with⟨_,hb⟩|⟨j,t,d',hg,hj,⟨u,hu,hb⟩|⟨hu,_⟩⟩
 ·cases hb
 ·have:u=!t:=by cases u<;>cases t<;>first | rfl | cases hb
  exact QaG.pass hg hj hu this hd hn
 exact QaG.passU hg hj hu hd hn
theorem Qlw (ok:Qbl P T)(hN:QcC P C n){D:Dr}:∀(ds:List Dw) {l:List Oper} {i:Nat} {ri:List (It×Nat)} {ms:List Mut} {B:St} {φ:Prop},QcV P C T n ops S ds l i ri ms B φ=some D→i=ri.length→l=ops.toList.drop i→ms=QE (Q5 ri)→B=bof base ms→
  (∀k it j,ri.reverse[k]? = some (it,j)→j=j0 (Q5 ri) k)→D.φ→
  φ∧D.ri.length=i+ds.length∧(∃r,Q5 D.ri=Q5 ri++r)∧D.ms=QE (Q5 D.ri)∧D.B=bof base D.ms∧(∀k it j,D.ri.reverse[k]? = some (it,j)→j=j0 (Q5 D.ri) k)∧
   ∀k o it,i≤k→ops[k]? = some o→(Q5 D.ri)[k]? = some it→Qir P C ops base S (Q5 D.ri) k o it:=by
 have hn:=hN.n
 intro ds
 induction ds with
 | nil=>
  intro l i ri ms B φ h hi hl hms hB hj hφ
  cases h
  refine⟨hφ,by simp [hi],⟨[],by simp⟩,hms,hB,hj,fun k o it hk ho hit=>?_⟩
  have:=(Qx.1 hit).1
  simp [Q5]at this;omega
 | cons d ds ih=>
  intro l i ri ms B φ h hi hl hms hB hj hφ
  cases l with
  | nil=>cases d<;>cases h
  | cons o l=>
   have ho:ops[i]? = some o:=by
    have:=congrArg (fun x=>x[0]?) hl
    simpa using this.symm
   have hl':l=ops.toList.drop (i+1):=by
    have:=congrArg List.tail hl
    simpa using this
   have hlen:(Q5 ri).length=i:=by simp [Q5,hi]
   have grow:∀(it:It) (φ0:Prop) (ms':List Mut) (B':St),ms'=QE (Q5 ri++[it])→B'=bof base ms'→QcV P C T n ops S ds l (i+1) ((it,ms.length)::ri) ms' B' φ0=some D→
     (φ0→φ∧∀its:List It,(∃r,its=Q5 ri++(it::r))→Qir P C ops base S its i o it)→
     φ∧D.ri.length=i+(ds.length+1)∧(∃r,Q5 D.ri=Q5 ri++r)∧D.ms=QE (Q5 D.ri)∧D.B=bof base D.ms∧(∀k it j,D.ri.reverse[k]? = some (it,j)→j=j0 (Q5 D.ri) k)∧
      ∀k o it,i≤k→ops[k]? = some o→(Q5 D.ri)[k]? = some it→Qir P C ops base S (Q5 D.ri) k o it:=by
    intro it φ0 ms' B' hms' hB' h hstep
    have hio:Q5 ((it,ms.length)::ri)=Q5 ri++[it]:=by simp [Q5]
    obtain⟨h1,h2,⟨r,h3⟩,h4,h5,h6,h7⟩:=ih h (by simp [hi]) hl' (by rw [hio];exact hms') hB' (fun k it' j hk=>by
     rw [hio]
     rw [List.reverse_cons]at hk
     by_cases hlt:k<ri.length
     ·rw [Qay (by simpa using hlt)]at hk
      rw [hj k it' j hk];unfold j0
      rw [QlY (by omega)]
     rw [QaP (by simp;omega)]at hk
     have:k-ri.reverse.length=0:=by
      have:=(Qx.1 hk).1;simpa using this
     rw [this]at hk;simp at hk
     obtain⟨rfl,rfl⟩:=hk
     have hk2:k=ri.length:=by simp at this;omega
     unfold j0
     rw [QlY (by omega),hms,Qfi (by omega)]) hφ
    obtain⟨h8,h9⟩:=hstep h1
    rw [hio,QbK]at h3
    refine⟨h8,by omega,⟨_,h3⟩,h4,h5,h6,fun k o' it' hk ho' hit=>?_⟩
    rcases Qbv i k with hlt | hge
    ·exact h7 k o' it' hlt ho' hit
    have:k=i:=by omega
    subst this
    rw [ho]at ho';cases ho'
    have:(Q5 D.ri)[k]? = some it:=by rw [h3,QaP (by omega),hlen];simp
    rw [this]at hit;cases hit
    exact h9 _ ⟨r,h3⟩
   have place:∀{its:List It} {it:It} {r:List It},its=Q5 ri++(it::r)→(QE its).take (j0 its i)=ms∧∀k it' j,ri.reverse[k]? = some (it',j)→its[k]? = some it'∧j=j0 its k:=by
    intro its it r hits
    have h1:its.take i=Q5 ri:=by rw [hits,QlY (by omega),Qfi (by omega)]
    refine⟨?_,fun k it' j hk=>⟨?_,?_⟩⟩
    ·unfold j0;rw [h1,hits,QcN,←hms];simp
    ·have hk2:(Q5 ri)[k]? = some it':=by simp only [Q5,←List.map_reverse,Q2,hk,QgR]
     rw [hits,Qay (Qx.1 hk2).1];exact hk2
    have hkl:=(Qx.1 hk).1
    rw [hj k it' j hk];unfold j0
    rw [hits,QlY (by simp at hkl;omega)]
   have envB:∀{its:List It} {it:It} {r:List It} {σ:St},its=Q5 ri++(it::r)→Sub σ B→(∀k y fl nf,its[k]? = some (.add y fl nf)→Qet o k=true→Qfq σ y fl (ms.drop (j0 its k)))→
     (∀x u,Qhk B false ms ri i o x=some u→σ.opd x=some u)∧∀b u,Qi7 B false ms ri i o b=some u→look σ.hp b=some u:=by
    intro its it r σ hits hsub hdep
    have dep:∀{t:Nat} {x:DF},Qgf false o t false ms ri i=some x→look σ.fr x.d=some x.v∧x.d=t:=fun hf=>by
     obtain⟨k,fl,nf,j,g1,g2,g3,g4⟩:=QjP hi hf
     obtain⟨g5,g6⟩:=(place hits).2 k _ j g1
     exact⟨(hdep k _ fl nf g5 g2).1 (by rw [←g6];exact g4),g3⟩
    have depO:∀{t:Nat} {x:DF},Qgf true o t false ms ri i=some x→(∀ob,x.ob=some ob→look σ.hp x.d=some ob)∧x.d=t:=fun hf=>by
     obtain⟨k,fl,nf,j,g1,g2,g3,g4⟩:=QjP hi hf
     obtain⟨g5,g6⟩:=(place hits).2 k _ j g1
     exact⟨(hdep k _ fl nf g5 g2).2 (by rw [←g6];exact g4),g3⟩
    refine⟨fun x u hx=>?_,fun b u hx=>?_⟩
    ·cases x with
     | tmp t=>
      simp only [Qhk]at hx
      split at hx
      ·rename_i v hv;cases hx;exact hsub.1 _ _ hv
      split at hx
      ·rename_i y hy;cases hx;obtain⟨g1,g2⟩:=dep hy;subst g2;exact g1
      cases hx
     | const v=>exact hx
     | global g=>exact hx
     | func f=>exact hx
    simp only [Qi7]at hx
    split at hx
    ·rename_i v hv;cases hx;exact hsub.2 _ _ hv
    split at hx
    ·rename_i y hy;obtain⟨g1,g2⟩:=depO hy;subst g2;exact g1 _ hx
    cases hx
   have envS:∀{its:List It} {it:It} {r:List It} {σ:St},its=Q5 ri++(it::r)→Sub σ S→(∀k y nf,its[k]? = some (.add y true nf)→Qet o k=true→Qku σ y)→
     (∀x u,Qhk S true ms ri i o x=some u→σ.opd x=some u)∧∀b u,Qi7 S true ms ri i o b=some u→look σ.hp b=some u:=by
    intro its it r σ hits hsub hdep
    have dep:∀{b:Bool} {t:Nat} {x:DF},Qgf b o t true ms ri i=some x→Qku σ x∧x.d=t:=fun hf=>by
     obtain⟨k,fl,nf,j,g1,g2,g3,g4⟩:=QjP hi hf
     obtain⟨g5,g6⟩:=(place hits).2 k _ j g1
     have:fl=true:=g4
     subst this
     exact⟨hdep k _ nf g5 g2,g3⟩
    refine⟨fun x u hx=>?_,fun b u hx=>?_⟩
    ·cases x with
     | tmp t=>
      simp only [Qhk]at hx
      split at hx
      ·rename_i v hv;cases hx;exact hsub.1 _ _ hv
      split at hx
      ·rename_i y hy;cases hx;obtain⟨g1,g2⟩:=dep hy;subst g2;exact g1.1
      cases hx
     | const v=>exact hx
     | global g=>exact hx
     | func f=>exact hx
    simp only [Qi7]at hx
    split at hx
    ·rename_i v hv;cases hx;exact hsub.2 _ _ hv
    split at hx
    ·rename_i y hy;obtain⟨g1,g2⟩:=dep hy;subst g2;exact g1.2 _ hx
    cases hx
   have addOK:∀{x:DF} {fl nf:Bool} {φ0:Prop},QcV P C T n ops S ds l (i+1) ((.add x fl nf,ms.length)::ri) ms B φ0=some D→
     (φ0→φ∧∀σ,(∀y u,Qhk (bif fl&&!nf then S else B) (fl&&!nf) ms ri i o y=some u→σ.opd y=some u)→(∀b u,Qi7 (bif fl&&!nf then S else B) (fl&&!nf) ms ri i o b=some u→look σ.hp b=some u)→(x.ob.isSome=true→look σ.hp x.d=none)→QaG P C ops o σ (σ.addF x))→
     φ∧D.ri.length=i+(ds.length+1)∧(∃r,Q5 D.ri=Q5 ri++r)∧D.ms=QE (Q5 D.ri)∧D.B=bof base D.ms∧(∀k it j,D.ri.reverse[k]? = some (it,j)→j=j0 (Q5 D.ri) k)∧
      ∀k o it,i≤k→ops[k]? = some o→(Q5 D.ri)[k]? = some it→Qir P C ops base S (Q5 D.ri) k o it:=by
    intro x fl nf φ0 h hs
    refine grow (.add x fl nf) φ0 ms B (by rw [QcN];simp [QE,hms]) hB h fun h0=>?_
    obtain⟨g1,g2⟩:=hs h0
    refine⟨g1,fun its ⟨r,hits⟩=>?_⟩
    dsimp only [Qir]
    generalize (fl&&!nf)=ff at g2 ⊢
    cases ff with
    | true=>exact fun σ hsub hdep hf=>let ⟨a,b⟩:=envS hits hsub hdep;g2 σ a b hf
    | false=>
     intro σ hsub hdep hf
     rw [(place hits).1,←hB]at hsub
     rw [(place hits).1]at hdep
     obtain⟨a,b⟩:=envB hits hsub hdep
     exact g2 σ a b hf
   cases d with
   | a h0 sv fl nf=>
    rw [QcV]at h
    split at h
    ·rename_i hw
     split at h
     ·rename_i dd hd
      replace h:=QO h;obtain⟨e1,h⟩:=h
      rw [←hn]at e1
      have stp:∀{v:V} {ob:Option Ob} {q:Option Prop} {σ:St},ev1 P C T h0 o dd (Qhk (bif fl&&!nf then S else B) (fl&&!nf) ms ri i o) (Qi7 (bif fl&&!nf then S else B) (fl&&!nf) ms ri i o)=some ⟨v,ob,q⟩→Rs.holds ⟨v,ob,q⟩→
        (∀x u,Qhk (bif fl&&!nf then S else B) (fl&&!nf) ms ri i o x=some u→σ.opd x=some u)→(∀b u,Qi7 (bif fl&&!nf then S else B) (fl&&!nf) ms ri i o b=some u→look σ.hp b=some u)→(ob.isSome=true→look σ.hp dd=none)→QaG P C ops o σ (σ.addF ⟨dd,v,ob⟩):=
       fun he hq hx hh hf=>QaG.want (Qi8 hw fun t u ht=>hx (.tmp t) u ht) (QjK ok hd e1 hN.g hx hh he hq hf)
      split at h
      ·rename_i v ob q he
       split at h
       ·exact addOK h fun h1=>let ⟨a,b⟩:=Qhi h1;⟨a,fun σ hx hh hf=>stp he b hx hh hf⟩
       refine addOK h fun h1=>?_
       obtain⟨h1,h2⟩:=h1
       subst h2
       obtain⟨a,b⟩:=Qhi h1
       exact⟨a,fun σ hx hh hf=>(stp he b hx hh hf).denil⟩
      cases h
     cases h
    ·rename_i hw
     split at h
     ·rename_i dd hd
      replace h:=QO h;obtain⟨e1,h⟩:=h
      rw [←hn]at e1
      exact addOK h fun h1=>⟨h1,fun σ hx hh hf=>QaG.unwant (Qi8 hw fun t u ht=>hx (.tmp t) u ht) hd e1⟩
     cases h
    cases h
   | m md=>
    rw [QcV]at h
    split at h
    ·rename_i hw
     split at h
     ·rename_i M q he
      refine grow (.tn M) (Qhh φ q) (ms++[M]) (M.run B) (by rw [QcN];simp [QE,hms]) (by rw [QkZ,←hB];rfl) h fun h1=>?_
      obtain⟨a,b⟩:=Qhi (v:=.J) (ob:=none) h1
      refine⟨a,fun its ⟨r,hits⟩ σ hsub hdep=>?_⟩
      rw [(place hits).1,←hB]at hsub
      rw [(place hits).1]at hdep
      obtain⟨hx,hh⟩:=envB hits hsub hdep
      refine QaG.want (Qi8 hw fun t u ht=>hx (.tmp t) u ht) (QnQ ok hN he ?_ hx hh)
      cases q with
      | none=>trivial
      | some p=>exact b
     cases h
    cases h
def Qfr (ms:List Mut):List (It×Nat)→List (Nat×V)
 | []=>[]
 | (.add x fl _,j)::r=>bif alv x fl (ms.drop j)then(x.d,x.v)::Qfr ms r else Qfr ms r
 | (.tn _,_)::r=>Qfr ms r
def Qew (ms:List Mut):List (It×Nat)→List (Nat×Ob)
 | []=>[]
 | (.add x fl _,j)::r=>bif Qie x fl (ms.drop j)then(match x.ob with | some ob=>(x.d,ob)::Qew ms r | none=>Qew ms r)else Qew ms r
 | (.tn _,_)::r=>Qew ms r
def okV (ops:Array Oper)(base S:St)(D:Dr):Bool:=Qlp ops&&Qop ops (Q5 D.ri)&&Qmp base (Q5 D.ri)&&Qiq D.ms (Q5 D.ri)&&Qlv ops (Q5 D.ri) D.ms S&&Qnj ops (Q5 D.ri)
theorem Qi9 {α:Type}{l:List (Nat×α)}:∀{ts:List Nat} {r:List (Nat×α)},Qdm l ts=some r→∀p∈r,look l p.1=some p.2:=by
 intro ts
 induction ts with
 | nil=>intro r h p hp;cases h;cases hp
 | cons t ts ih=>
  intro r h p hp
  rw [Qdm]at h
  split at h
  ·rename_i v hv
   split at h
   ·rename_i r' hr
    cases h
    rcases Qaa.1 hp with rfl | hp
    ·exact hv
    exact ih hr p hp
   cases h
  cases h
theorem Qou {fr:List (Nat×V)}:∀{l:List (Nat×V)},(∀p∈l,look fr p.1=some p.2)→QdP fr l:=by
 intro l
 induction l with
 | nil=>intro _;trivial
 | cons p l ih=>intro h;exact⟨h p Qa1,ih fun q hq=>h q (Qbu _ hq)⟩
theorem Qov {fr:List (Nat×Ob)}:∀{l:List (Nat×Ob)},(∀p∈l,look fr p.1=some p.2)→QcZ fr l:=by
 intro l
 induction l with
 | nil=>intro _;trivial
 | cons p l ih=>intro h;exact⟨h p Qa1,ih fun q hq=>h q (Qbu _ hq)⟩
theorem AK.draw2 {id:Nat}(ok:Qbl P T)(hN:QcC P C n)(hmix:P.follows .mixedOrders=true)(ds:List Dw)(sts sos ts os:List Nat){sf:List (Nat×V)}{sh:List (Nat×Ob)}{fr:List (Nat×V)}{hp:List (Nat×Ob)}{ri:List (It×Nat)}{ms:List Mut}{B:St}{φ:Prop}
  (hS1:Qdm base.fr sts=some sf) (hS2:Qdm base.hp sos=some sh)
  (e:QcV P C T n ops ⟨sf,sh⟩ ds ops.toList 0 [] [] base True=some ⟨ri,ms,B,φ⟩) (hφ:φ) (hl:ds.length=ops.size) (hk:okV ops base ⟨sf,sh⟩ ⟨ri,ms,B,φ⟩=true)
  (hf1:Qdm (Qfr ms ri++B.fr) ts=some fr) (hf2:Qdm (Qew ms ri++B.hp) os=some hp) (hc:St.closed ⟨fr,hp⟩=true) (k:AK P C Q (.x .normal) ks ⟨fr,hp⟩):AK P C Q (.c (.region id ops true)) ks base:=by
 have hn:=hN.n
 obtain⟨D,hD⟩:∃D:Dr,D=⟨ri,ms,B,φ⟩:=⟨_,rfl⟩
 rw [←hD]at e hk
 have hφ:D.φ:=by rw [hD];exact hφ
 have hf1:Qdm (Qfr D.ms D.ri++D.B.fr) ts=some fr:=by rw [hD];exact hf1
 have hf2:Qdm (Qew D.ms D.ri++D.B.hp) os=some hp:=by rw [hD];exact hf2
 clear hD
 simp only [okV,Qu]at hk
 obtain⟨⟨⟨⟨⟨k1,k2⟩,k3⟩,k4⟩,k5⟩,k6⟩:=hk
 obtain⟨_,h2,_,h4,h5,h6,h7⟩:=Qlw (base:=base) ok hN ds e rfl rfl rfl rfl (fun k it j h=>by simp at h) hφ
 have hlen:(Q5 D.ri).length=ops.size:=by simp [Q5];omega
 rw [h4]at k4 k5
 have hS:Sub base ⟨sf,sh⟩:=⟨fun t v h=>by
  have:=Qi9 hS1 (t,v) (Qah h);exact this,fun p ob h=>by have:=Qi9 hS2 (p,ob) (Qah h);exact this⟩
 refine AK.drawV hmix hlen k1 k2 k3 k6 k4 k5 hS (fun i o it ho hit=>h7 i o it (Nat.zero_le _) ho hit) fun σ hsub hadd=>?_
 rw [←h4,←h5]at hsub
 have hadd':∀x fl nf j,(It.add x fl nf,j)∈D.ri→Qfq σ x fl (D.ms.drop j):=by
  intro x fl nf j hm
  obtain⟨i,hi⟩:=List.getElem?_of_mem (List.mem_reverse.2 hm)
  have hj:=h6 i _ j hi
  rw [hj,h4]
  refine hadd i x fl nf ?_
  simp only [Q5,←List.map_reverse,Q2,hi,QgR]
 have frOK:∀{ri:List (It×Nat)},(∀q∈ri,q∈D.ri)→∀{t:Nat} {v:V},look (Qfr D.ms ri) t=some v→look σ.fr t=some v:=by
  intro ri
  induction ri with
  | nil=>intro _ t v h;cases h
  | cons y ri ih=>
   intro hm t v h
   have hm':=fun q hq=>hm q (Qbu _ hq)
   obtain⟨it,j⟩:=y
   cases it with
   | tn M=>exact ih hm' h
   | add x fl nf=>
    rw [Qfr]at h
    cases hal:alv x fl (D.ms.drop j)with
    | false=>rw [hal]at h;exact ih hm' h
    | true=>
     rw [hal]at h
     have h:look ((x.d,x.v)::Qfr D.ms ri) t=some v:=h
     by_cases e:x.d=t
     ·subst e;rw [Qn]at h;cases h;exact(hadd' x fl nf j (hm _ Qa1)).1 hal
     rw [Ql _ _ e]at h;exact ih hm' h
 have hpOK:∀{ri:List (It×Nat)},(∀q∈ri,q∈D.ri)→∀{t:Nat} {v:Ob},look (Qew D.ms ri) t=some v→look σ.hp t=some v:=by
  intro ri
  induction ri with
  | nil=>intro _ t v h;cases h
  | cons y ri ih=>
   intro hm t v h
   have hm':=fun q hq=>hm q (Qbu _ hq)
   obtain⟨it,j⟩:=y
   cases it with
   | tn M=>exact ih hm' h
   | add x fl nf=>
    rw [Qew]at h
    cases hal:Qie x fl (D.ms.drop j)with
    | false=>rw [hal]at h;exact ih hm' h
    | true=>
     rw [hal]at h
     cases hob:x.ob with
     | none=>rw [hob]at h;exact ih hm' h
     | some ob=>
      rw [hob]at h
      have h:look ((x.d,ob)::Qew D.ms ri) t=some v:=h
      by_cases e:x.d=t
      ·subst e;rw [Qn]at h;cases h;exact(hadd' x fl nf j (hm _ Qa1)).2 hal _ hob
      rw [Ql _ _ e]at h;exact ih hm' h
 refine AK.weaken (fun a w hR=>hR.to (Qou fun p hp'=>?_) (Qov fun p hp'=>?_) hc) k
 ·have:=Qi9 hf1 p hp'
  rw [Qck]at this
  cases hl:look (Qfr D.ms D.ri) p.1 with
  | some v=>rw [hl]at this;cases this;exact frOK (fun _ h=>h) hl
  | none=>rw [hl]at this;exact hsub.1 _ _ this
 have:=Qi9 hf2 p hp'
 rw [Qck]at this
 cases hl:look (Qew D.ms D.ri) p.1 with
 | some v=>rw [hl]at this;cases this;exact hpOK (fun _ h=>h) hl
 | none=>rw [hl]at this;exact hsub.2 _ _ this
end
theorem QhP {α:Type}{f:α→List V}{l:List α}{k h:Nat}:((l.map f).drop k).take (h-k)=((l.drop k).take (h-k)).map f:=by simp
theorem dropL {α:Type}{l:List α}{k:Nat}:l.length-k=(l.drop k).length:=List.length_drop.symm
end Go.Vm
namespace Go.Vm
open Go Go.RowKit
section
variable {P:Program}{C:Ctx}{σ:St}{o:Oper}
def Qkx (P:Program)(T:TypeId)(k:IntKind):Bool:=match P.underlying T with
 | some (.int q)=>ikB q k
 | _=>false
theorem Qms {T:TypeId}{k:IntKind}(h:Qkx P T k=true):P.underlying T=some (.int k):=by
 unfold Qkx at h
 split at h
 ·rename_i q hq;rw [hq,Qmb h]
 cases h
theorem Stp.convI {S T d:Nat}{x:Operand}{k k':IntKind}{n:Int}(ho:o.op=.convert S T x)(hd:o.dst=some d)(hn:Nat.ble (d+1) C.n=true)(hx:σ.opd x=some (.i k' n))(hs:Qkx P S k'=true)(hT:Qkx P T k=true):Stp P C o σ (σ.put d (.i k (k.wrap n))):=by
 refine Stp.same hd hn fun φ a w hr=>⟨.int k (k.wrap n),?_,.dat (.i _ _)⟩
 simp [execOp,ho,(hr.opd hx).i_inv,convert,run_underlying (Qms hs),run_underlying (Qms hT),Conv.intToInt]
def Qmt (k:IntKind)(m n:Int):Int:=k.wrap (m*2 ^ (min n.toNat k.bits))
def Qeu (k:IntKind)(m n:Int):Int:=m.fdiv (2 ^ (min n.toNat k.bits))
theorem Stp.shl {x y:Operand}{T U d:Nat}{k k':IntKind}{m n:Int}(ho:o.op=.binOp .shl T x y U)(hd:o.dst=some d)(hn:Nat.ble (d+1) C.n=true)(hx:σ.opd x=some (.i k m))(hy:σ.opd y=some (.i k' n))(h0:0≤n):Stp P C o σ (σ.put d (.i k (Qmt k m n))):=by
 refine Stp.same hd hn fun φ a w hr=>⟨.int k _,?_,.dat (.i _ _)⟩
 have:¬n<0:=by omega
 simp [execOp,ho,(hr.opd hx).i_inv,(hr.opd hy).i_inv,eqGuard,binOp,Op.shift,this,Qmt]
theorem Stp.shr {x y:Operand}{T U d:Nat}{k k':IntKind}{m n:Int}(ho:o.op=.binOp .shr T x y U)(hd:o.dst=some d)(hn:Nat.ble (d+1) C.n=true)(hx:σ.opd x=some (.i k m))(hy:σ.opd y=some (.i k' n))(h0:0≤n):Stp P C o σ (σ.put d (.i k (Qeu k m n))):=by
 refine Stp.same hd hn fun φ a w hr=>⟨.int k _,?_,.dat (.i _ _)⟩
 have:¬n<0:=by omega
 simp [execOp,ho,(hr.opd hx).i_inv,(hr.opd hy).i_inv,eqGuard,binOp,Op.shift,this,Qeu]
def orI (k:IntKind)(m n:Int):Int:=k.wrap ((BitVec.ofInt k.bits m ||| BitVec.ofInt k.bits n).toNat:Int)
theorem Stp.orB {x y:Operand}{T U d:Nat}{k:IntKind}{m n:Int}(ho:o.op=.binOp .or T x y U)(hd:o.dst=some d)(hn:Nat.ble (d+1) C.n=true)(hx:σ.opd x=some (.i k m))(hy:σ.opd y=some (.i k n)):Stp P C o σ (σ.put d (.i k (orI k m n))):=
 Stp.same hd hn fun φ a w hr=>⟨.int k _,by simp [execOp,ho,(hr.opd hx).i_inv,(hr.opd hy).i_inv,eqGuard,binOp,Op.intBits,orI],.dat (.i _ _)⟩
def Qc2 : List V→Option (List Value)
 | []=>some []
 | .i k n::r=>(Qc2 r).map (.int k n::·)
 | .b x::r=>(Qc2 r).map (.bool x::·)
 | .s x::r=>(Qc2 r).map (.string x::·)
 | _=>none
theorem QnR {φ:Nat→Option Blk}{I:Nat→Prop}{w:World}:∀{cs:List V} {vs xs:List Value},Qc2 cs=some vs→xs.length=cs.length→(∀(j:Nat) x v,xs[j]? = some x→cs[j]? = some v→Rep φ I w x v)→xs=vs:=by
 intro cs
 induction cs with
 | nil=>intro vs xs h hl _;cases h;exact List.eq_nil_of_length_eq_zero hl
 | cons c cs ih=>
  intro vs xs h hl hr
  cases xs with
  | nil=>cases hl
  | cons x xs=>
   have h0:=hr 0 x c rfl rfl
   have hi:∀{us:List Value},Qc2 cs=some us→xs=us:=fun e=>ih e (by simpa using hl) fun j x v a b=>hr (j+1) x v a b
   cases c with
   | i k n=>simp only [Qc2,Q8]at h;obtain⟨us,e,rfl⟩:=h;rw [h0.i_inv,hi e]
   | b k=>simp only [Qc2,Q8]at h;obtain⟨us,e,rfl⟩:=h;rw [h0.b_inv,hi e]
   | s k=>simp only [Qc2,Q8]at h;obtain⟨us,e,rfl⟩:=h;rw [h0.s_inv,hi e]
   | _=>cases h
theorem Rep.aggVals {φ:Nat→Option Blk}{I:Nat→Prop}{w:World}{x:Value}{cs:List V}{vs:List Value}(h:Rep φ I w x (.agg cs))(hv:Qc2 cs=some vs):x=.agg vs.toArray:=by
 obtain⟨xs,rfl,hs,hr⟩:=h.agg_inv
 have:=QnR (xs:=xs.toList) hv (by simpa using hs) fun j x v a b=>hr j x v (by simpa using a) b
 rw [←this]
def EqT (P:Program)(T:TypeId)(vs us:List Value)(r:Bool):Prop:=P.eqGuardType P.depth T=false∧∀w,(Op.equalIn 10000 T (.agg vs.toArray) (.agg us.toArray)).run P w=.ok r w
theorem Stp.eqAgg {x y:Operand}{T U d:Nat}{cs ds:List V}{vs us:List Value}{r:Bool}(ho:o.op=.binOp .eql T x y U)(hd:o.dst=some d)(hn:Nat.ble (d+1) C.n=true)(hx:σ.opd x=some (.agg cs))(hy:σ.opd y=some (.agg ds))(hv:Qc2 cs=some vs)(hu:Qc2 ds=some us)(he:EqT P T vs us r):
  Stp P C o σ (σ.put d (.b r)):=by
 refine Stp.same hd hn fun φ a w hr=>⟨.bool r,?_,.dat (.b _)⟩
 have h1:=(hr.opd hx).aggVals hv
 have h2:=(hr.opd hy).aggVals hu
 have h3:=he.2 w
 simp only [execOp,ho,h1,h2,eqGuard,Sem.run_bind,run_program,Result.andThen_ok,he.1]
 simp [binOp,Op.equal,Op.maxDepth,h3,he.1]
theorem Stp.neAgg {x y:Operand}{T U d:Nat}{cs ds:List V}{vs us:List Value}{r:Bool}(ho:o.op=.binOp .neq T x y U)(hd:o.dst=some d)(hn:Nat.ble (d+1) C.n=true)(hx:σ.opd x=some (.agg cs))(hy:σ.opd y=some (.agg ds))(hv:Qc2 cs=some vs)(hu:Qc2 ds=some us)(he:EqT P T vs us r):
  Stp P C o σ (σ.put d (.b (!r))):=by
 refine Stp.same hd hn fun φ a w hr=>⟨.bool (!r),?_,.dat (.b _)⟩
 have h1:=(hr.opd hx).aggVals hv
 have h2:=(hr.opd hy).aggVals hu
 have h3:=he.2 w
 simp only [execOp,ho,h1,h2,eqGuard,Sem.run_bind,run_program,Result.andThen_ok,he.1]
 simp [binOp,Op.equal,Op.maxDepth,h3,he.1]
end
section
variable {P:Program}{C:Ctx}{σ:St}{Q:Exit→St→Prop}{ks:List Fr}{ops:Array Oper}{rest:List Oper}{o:Oper}
theorem AK.eqNil {x y:Operand}{T U d e z:Nat}{rows:List (List V)}(hg:o.guard=none)(ho:o.op=.binOp .eql T x y U)(hd:o.dst=some d)(hn:Nat.ble (d+1) C.n=true)(hx:σ.opd x=some (.sl z rows))(hy:σ.opd y=some (.lit (.slice none 0 0)))(hT:P.underlying T=some (.slice e))
  (h1:rows=[]→AK P C Q (.o ops rest) ks (σ.put d (.b true))) (h2:AK P C Q (.o ops rest) ks (σ.put d (.b false))):AK P C Q (.o ops (o::rest)) ks σ:=by
 intro a w hR
 obtain⟨φ,hr⟩:=hR
 have hyv:a.eval y=.slice none 0 0:=(hr.opd hy).lit_inv
 have run:∀p l c,a.eval x=.slice p l c→(execOp a.eval o).run P w=.ok (.value (.bool p.isNone)) w:=fun p l c e=>by
  simp [execOp,ho,e,hyv,eqGuard,binOp,run_equal_slice_nil w T _ p l c hT]
 have go:∀{v:Bool} {σ':St},(execOp a.eval o).run P w=.ok (.value (.bool v)) w→σ'=σ.put d (.b v)→AK P C Q (.o ops rest) ks σ'→wpListIn C.F 0 P ops (up C (unw P C Q ks)) (o::rest) a w:=fun {v σ'} e e2 k=>by
  have:Stp P C { o with op:=.move (.const (.bool v)) } σ (σ.put d (.b v)):=Stp.move rfl hd hn rfl
  simp only [wpListIn,Region.wanted,hg,if_true]
  refine⟨fun _ _=>trivial,?_⟩
  rw [Ql5 e,Oper.uponIn_value]
  subst e2
  refine k _ _ ⟨φ,?_⟩
  rw [hd]
  exact hr.put (QM hn) (.dat (.b _))
 rcases(hr.opd hx).sl_inv with⟨p,c,he,h0⟩|⟨b,off,cap,he,_⟩
 ·cases p with
  | none=>exact go (run none 0 c he) rfl (h1 h0)
  | some p=>exact go (run (some p) 0 c he) rfl h2
 exact go (run _ _ _ he) rfl h2
end
section
variable {P:Program}{C:Ctx}{σ:St}{o:Oper}
theorem Stp.buildAny {T d e z by_ n:Nat}{parts:Array (Nat×Operand)}{zs vs:List V}{qs:List (Nat×V)}(ho:o.op=.buildSlice T n parts)(hd:o.dst=some d)(hn:Nat.ble (d+1) C.n=true)
  (hT:QR P T=some (e,z,by_)) (hz:Qab P e=some zs) (hzl:zs.length=z) (hz0:z≠0) (hbig:n*z≤16777216) (hq:σ.opds parts.toList=some qs) (hv:qs.all (fun q=>q.2.isV)=true)
  (hf:Qb9 (fun i=>some (i*z,z)) ((List.range (n*z)).map fun k=>zs.getD (k % z) .J) qs=some vs)
  (hfr:look σ.hp d=none):Stp P C o σ ((σ.set d (.var vs)).put d (.own d n)):=by
 refine Stp.val fun φ a w hr=>?_
 obtain⟨hu,i,hi,hi1,_⟩:=QaF hT
 obtain⟨i',zv,hi',hz',rfl⟩:=Qdg hz
 rw [hi]at hi';cases hi'
 have hzs:zv.cells.size=i.size:=by rw [hi1];simpa using hzl
 have hf0:=hf
 rw [←hi1]at hf
 rw [←QiQ zv.cells n i.size hzs (by omega)]at hf
 obtain⟨xs',h1,h2,h3⟩:=hr.fill hq hv hf
 refine⟨.slice (some ⟨w.heap.size,0,none⟩) n n,w.alloc (.cells xs' e),ext φ d ⟨w.heap.size,n,1,[],0⟩,?_,?_⟩
 ·have e2:(parts.map fun p=>(p.1,a.eval p.2)).toList=parts.toList.map fun p=>(p.1,a.eval p.2):=by simp
  have hb:¬(n*i.size > 2 ^ 24):=by rw [hi1];omega
  by_cases hn0:n*i.size=0
  ·have hn1:n=0:=by
    rw [hi1]at hn0
    rcases Nat.mul_eq_zero.1 hn0 with h | h
    ·exact h
    exact absurd h hz0
   subst hn1
   simp only [Qfk]at h1
   rw [Qks,Qkr]at h1
   simp only [execOp,ho,Instr.buildSlice,Sem.run_bind,run_underlying hu,Result.andThen_ok,sizeOf,typeInfo,run_program,hi,Sem.run_pure,Qfk,if_true,e2,Qks,Qkr]
   simp [h1,newRow]
  simp only [execOp,ho,Instr.buildSlice,Sem.run_bind,run_underlying hu,Result.andThen_ok,sizeOf,typeInfo,run_program,hi,Sem.run_pure,if_neg hb,if_neg hn0,zeroValue,hz',e2,h1,newRow,run_newObj]
  simp
 have hN:=hr.none_of_look hfr
 have hnew:=hr.alloc (cap:=n) (z:=1) hfr (C.slot hn) (ob:=.var vs) (obj:=.cells xs' e)
  ⟨xs',e,heap_alloc_new w _,h2,rfl,fun j x v hx hv'=>(h3 j x v hx hv').mono (hr.mono_ext _ hN) (hr.imm_alloc d n 1 _ hN)⟩
 rw [hd]
 refine hnew.put (QM hn) ?_
 exact .own d n ⟨w.heap.size,n,1,[],0⟩ (QG _ _ _) (QaX _)
theorem Stp.idxV {T d e z by_ b n m:Nat}{x y:Operand}{cs:List V}{k:IntKind}{j:Int}(ho:o.op=.indexAddr T x y)(hd:o.dst=some d)(hn:Nat.ble (d+1) C.n=true)
  (hx:σ.opd x=some (.own b n)) (hy:σ.opd y=some (.i k j)) (hT:QR P T=some (e,z,by_)) (hb:look σ.hp b=some (.var cs)) (h0:(0≤j∧j<n)∧j.toNat*z=m):
  Stp P C o σ (σ.put d (.loc b 0 m)):=by
 refine Stp.same hd hn fun φ a w hr=>?_
 obtain⟨⟨h0,h1⟩,rfl⟩:=h0
 rcases(hr.opd hx).own_inv with⟨_,rfl⟩|⟨B,hB,hcap,he⟩
 ·omega
 refine⟨.pointer (some ⟨B.b,B.off+(0*B.z+j.toNat*z),none⟩),?_,.loc b 0 (j.toNat*z) B hB⟩
 simp only [execOp,ho,he,(hr.opd hy).i_inv,Sem.run_bind,Qfl hT h0 h1,Result.andThen_ok,Sem.run_pure,Addr.add_lit,Qfk,QcY]
end
section
variable {P:Program}{C:Ctx}{Q:Exit→St→Prop}
def Rnd (P:Program)(C:Ctx)(Q:Exit→St→Prop)(ks:List Fr)(c:Code):Nat→St→Prop
 | 0,_=>False
 | n+1,σ=>AK P C Q (.c c) (.cut (Rnd P C Q ks c n)::ks) σ
theorem AK.rnd {ks:List Fr}{c:Code}{n:Nat}{σ:St}(h:AK P C Q (.c c) (.cut (Rnd P C Q ks c n)::ks) σ):Rnd P C Q ks c (n+1) σ:=h
theorem AK.loopN {ks:List Fr}{c:Code}(n:Nat){σ:St}(h:Rnd P C Q ks c n σ):AK P C Q (.c (.loop c)) ks σ:=by
 have key:∀(n:Nat) (σ:St) (a:Act) (w:World),Rnd P C Q ks c n σ→R C σ a w→Code.roundsIn C.F 0 P c (up C (unw P C Q ks)) n a w:=by
  intro n
  induction n with
  | zero=>intro σ a w h;exact h.elim
  | succ n ih=>
   intro σ a w h hR
   rw [roundsIn_succ]
   refine wpIn_mono (h a w hR) ?_
   rintro e a' w' ⟨σ',h1,h2⟩
   cases e with
   | normal=>exact ih σ' a' w' h1 h2
   | _=>exact⟨σ',h1,h2⟩
 exact fun a w hR=>wpIn_loop_rounds n (key n σ a w h hR)
end
end Go.Vm
namespace Go.Vm
open Go Go.RowKit
def QnS (P:Program)(l:Nat)(K:QhI)(us:List V)(hs:List (Nat×Ob))(post:V→List (Nat×Ob)→Prop):Prop:=
 ∀(S:Nat→Prop) (φ:Nat→Option Blk) (w:World) (vals:Array Value),Ins S φ w vals us hs→QiU P S w→
  RoundIn Fence.wide 0 P l K.fn vals K.assign K.body w fun e w'=>∃x v hs' φ',e=.returned x∧post v hs'∧Outs S φ w φ' w' x v hs'
section
variable {P:Program}{C:Ctx}{φ:Nat→Option Blk}{σ:St}{a:Act}{w:World}{o:Oper}
theorem RR.lp (h:RR C φ σ a w){b l:Nat}{K:QhI}{cs:List V}{q:Nat}(hb:look σ.hp b=some (.lp l K cs q)):∃B,φ b=some B∧QoP φ (Imm C φ w) w B l K cs q:=by
 rcases h.heap b _ hb with h | ⟨_,h⟩
 ·exact h
 exact h.elim
theorem RR.lpSet (h:RR C φ σ a w){b l:Nat}{K:QhI}{cs:List V}{q q':Nat}(hb:look σ.hp b=some (.lp l K cs q)):
  ∃r:Loop,w.heap[l]? = some (.loop r)∧r.state=lst q∧r.pending=jmp q∧RR C φ (σ.set b (.lp l K cs q')) a (w.putObj l (.loop { r with state:=lst q',pending:=jmp q' })):=by
 obtain⟨B,hB,tmps,D,rfl,h1,h2,h3,h4⟩:=h.lp hb
 refine⟨_,h2,rfl,rfl,?_⟩
 have hlt:=(h.lt b B B.b hB B.self).1
 have hk:∀k,k≠B.b→(w.putObj B.b (.loop { state:=lst q',pending:=jmp q',fn:=K.fn,tmps,params:=K.ps,assign:=K.assign,body:=K.body,defers:=D })).heap[k]? = w.heap[k]? := fun k hk=>World.putObj_heap_other hk
 refine h.write hB rfl rfl rfl World.putObj_size hk ⟨tmps,D,rfl,h1,World.putObj_heap_same hlt,h3,fun j x v hx hv=>?_⟩
 refine(h4 j x v hx hv).mono (fun _ _ h=>h) fun k hk'=>⟨⟨by rw [World.putObj_size];exact hk'.1,hk'.2⟩,hk k fun e=>hk'.2.2 b B hB (.inl e)⟩
def Qpp (b l:Nat)(K:QhI)(post:V→List (Nat×Ob)→Prop):Exit→St→Prop
 | .normal,σ=>∃cs,look σ.hp b=some (.lp l K cs 1)∧post (.b true) ((b,.lp l K cs 0)::σ.hp)
 | .ret,σ=>∃cs,look σ.hp b=some (.lp l K cs 1)∧post (.b false) ((b,.lp l K cs 2)::σ.hp)
 | .exit k,σ=>∃cs,look σ.hp b=some (.lp l K cs 1)∧post (.b false) ((b,.lp l K cs (k+3))::σ.hp)
 | _,_=>False
theorem QnS.walk {b l:Nat}{K:QhI}{us:List V}{hs:List (Nat×Ob)}{post:V→List (Nat×Ob)→Prop}(n:Nat)(hn:us.length=n)(hle:Nat.ble n 607=true)
  (h:∀C:Ctx,QcC P C n→AK P C (fun e σ=>e=.normal∧∃cs,look σ.hp b=some (.lp l K cs 0)∧AK P C (Qpp b l K post) (.c K.body) [] (σ.set b (.lp l K cs 1))) (.c K.assign) [] ⟨Qhf 0 us,hs⟩):QnS P l K us hs post:=by
 intro S φ w vals hi hG
 let C:Ctx:=⟨w,S,fun k=>∃o B,φ o=some B∧B.has k,n,φ,QaK hle,some l⟩
 have hF:Fence.wide.inRound l=C.F:=rfl
 have hI:∀k,S k→Imm C φ w k∧w.heap[k]? = w.heap[k]? := fun k hk=>⟨⟨hi.lt k hk,fun _=>hk,fun o B hB e=>((hi.dom o B hB).2.1 k e).2 hk⟩,rfl⟩
 have hR:R C ⟨Qhf 0 us,hs⟩ { tmps:=vals,defers:=[] } w:=by
  refine⟨φ,rfl,rfl,rfl,QaX _,fun _ _ _=>rfl,hi.inj,fun o B hB=>(hi.dom o B hB).2.2,fun o B k hB hk=>⟨((hi.dom o B hB).2.1 k hk).1,fun _=>⟨o,B,hB,hk⟩⟩,fun o B k hB hk hlt=>absurd (hi.dom o B hB).1 (by omega),⟨fun _ _ _ h=>h,fun _ _ _ _ _ h=>h⟩,
   by show vals.size=n;rw [hi.size,hn],⟨[],rfl,List.nodup_nil,fun _ h=>by cases h⟩,fun t v hv=>?_,fun o ob hob=>?_⟩
  ·obtain⟨_,h2⟩:=QlF us 0 t v hv
   rw [Nat.sub_zero]at h2
   have hlt:t<vals.size:=by rw [hi.size];exact(Qx.1 h2).1
   exact⟨vals[t],Qb1 hlt,(hi.args t _ v (Qb1 hlt) h2).mono (fun _ _ h=>h) hI⟩
  rcases hi.heap o ob hob with⟨B,hB,hr⟩|hn
  ·exact .inl ⟨B,hB,hr.mono (fun _ _ h=>h) hI fun _ _=>rfl⟩
  exact .inr hn
 refine roundIn_of_wpIn trivial ?_
 rw [hF]
 refine wpIn_mono (h C ⟨rfl,hG,fun g hg ⟨o,B,hB,hb⟩=>((hi.dom o B hB).2.1 g hb).2 (hG g hg).1⟩ _ _ hR) ?_
 rintro e a1 w1 ⟨σ1,⟨rfl,cs,hlp,hbody⟩,φ1,hr1⟩
 obtain⟨r,g1,g2,g3,g4⟩:=hr1.lpSet (q':=1) hlp
 refine⟨_,run_beginRound g1 g2,?_⟩
 have hbusy:({ r with state:=LoopState.busy }:Loop)={ r with state:=lst 1,pending:=jmp 1 }:=by
  rw [show jmp 1=r.pending from g3.symm];rfl
 rw [hbusy]
 refine wpIn_mono (hbody _ _ ⟨φ1,g4⟩) ?_
 rintro e a2 w2 ⟨σ2,hq,φ2,hr2⟩
 have fin:∀(jump:Option Code) (q:Nat) (cs2:List V),look σ2.hp b=some (.lp l K cs2 1)→jmp q=jump→(if jump.isNone then LoopState.ready else LoopState.done)=lst q→post (.b jump.isNone) ((b,.lp l K cs2 q)::σ2.hp)→
   ∃v w',(Instr.endRound l jump).run P w2=.ok v w'∧∃x v' hs' φ',Ending.returned v=.returned x∧post v' hs'∧Outs S φ w φ' w' x v' hs':=fun jump q cs2 hl2 hj hst hp=>by
  obtain⟨r2,k1,_,_,k4⟩:=hr2.lpSet (q':=q) hl2
  refine⟨_,_,run_endRound jump k1,.bool jump.isNone,.b jump.isNone,_,φ2,rfl,hp,?_⟩
  rw [hst,←hj]
  exact⟨k4.os,k4.tape,k4.output,k4.size,fun k hk hne=>k4.kept k hk (fun ⟨o,B,hB,e⟩=>hne o B hB e),k4.inj,k4.dom,
   fun o B k hB hk=>⟨(k4.lt o B k hB hk).1,fun hlt=>(k4.lt o B k hB hk).2 hlt⟩,k4.new,k4.stay,.dat (.b _),k4.heap⟩
 cases e with
 | normal=>obtain⟨cs2,hl2,hp⟩:=hq;exact fin none 0 cs2 hl2 rfl rfl hp
 | ret=>obtain⟨cs2,hl2,hp⟩:=hq;exact fin (some .ret) 2 cs2 hl2 rfl rfl hp
 | exit k=>obtain⟨cs2,hl2,hp⟩:=hq;exact fin (some (.exit k)) (k+3) cs2 hl2 rfl rfl hp
 | _=>exact hq.elim
end
section
variable {P:Program}{C:Ctx}{φ:Nat→Option Blk}{σ:St}{a:Act}{w:World}{o:Oper}
def Qmu (P:Program)(T:TypeId)(i:Nat):Option (Nat×Bool×Nat):=match P.underlying T with
 | some (.struct fs)=>match fs[i]? with
  | some f=>match QbR P f.type with
   | some g=>match QcB P f.type with
    | some n=>some (f.offset,g,n)
    | none=>none
   | none=>none
  | none=>none
 | _=>none
theorem Qnq {T i off n:Nat}{g:Bool}(h:Qmu P T i=some (off,g,n)):∃(fs:Array Field) (f:Field),P.underlying T=some (.struct fs)∧fs[i]? = some f∧f.offset=off∧QbR P f.type=some g∧QcB P f.type=some n:=by
 unfold Qmu at h
 split at h
 ·rename_i fs hu
  split at h
  ·rename_i f hf
   split at h
   ·rename_i g' hg
    split at h
    ·rename_i n' hn;cases h;exact⟨fs,f,hu,hf,rfl,hg,hn⟩
    cases h
   cases h
  cases h
 cases h
theorem Stp.field {T i d off n:Nat}{g:Bool}{x:Operand}{cs:List V}{v:V}(ho:o.op=.field T x i)(hd:o.dst=some d)(hn:Nat.ble (d+1) C.n=true)(hx:σ.opd x=some (.agg cs))(hT:Qmu P T i=some (off,g,n))
  (hv:(bif g then some (.agg ((cs.drop off).take n))else cs[off]?)=some v):Stp P C o σ (σ.put d v):=by
 refine Stp.same hd hn fun φ a w hr=>?_
 obtain⟨fs,f,hu,hf,rfl,hg,hsz⟩:=Qnq hT
 obtain⟨xs,he,hs,hc⟩:=(hr.opd hx).agg_inv
 cases g with
 | true=>
  cases hv
  refine⟨.agg (xs.extract f.offset (f.offset+n)),?_,.agg _ _ (by simp;omega) fun j x v hj hv=>?_⟩
  ·simp only [execOp,ho,he,Instr.field,Sem.run_bind,run_underlying hu,Result.andThen_ok,hf,part,asAgg,Sem.run_pure,QhL hg,if_true,QiO hsz]
  rw [Array.getElem?_extract]at hj
  split at hj
  ·rw [QaJ]at hv
   split at hv
   ·rw [Qbj]at hv;exact hc _ x v hj hv
   cases hv
  cases hj
 | false=>
  simp only [cond_false]at hv
  have hlt:f.offset<xs.size:=by rw [hs];exact(Qx.1 hv).1
  refine⟨xs[f.offset],?_,hc _ _ v (Qb1 hlt) hv⟩
  simp [execOp,ho,he,Instr.field,Sem.run_bind,run_underlying hu,hf,part,asAgg,QhL hg,hlt]
theorem Dat.den1 {I:Nat→Prop}{w:World}{x:Value}{v:V}{m:Option Nat}(h:Dat I w x v):Dat I w x (Vm.den1 m v):=by
 unfold Vm.den1
 split
 ·cases h;exact .sl0 _ _ _
 exact h
end
section
variable {P:Program}{C:Ctx}{σ σ':St}{o:Oper}
end
section
variable {P:Program}{C:Ctx}{φ:Nat→Option Blk}{σ:St}{a:Act}{w:World}{o:Oper}
end
end Go.Vm
namespace Go.Vm
open Go Go.RowKit Go.Proofs Go.Sort Go.Shelf
section
variable {P:Program}{C:Ctx}{σ:St}{o:Oper}
end
end Go.Vm
namespace Go.Vm
open Go Go.RowKit
def Cl (w:World)(cs:List Value)(vs:List V):Prop:=cs.length=vs.length∧∀(j:Nat) c v,cs[j]? = some c→vs[j]? = some v→Dat (fun k=>k<w.heap.size) w c v
theorem Cl.nil {w:World}:Cl w [] []:=⟨rfl,fun j c v h _=>by simp at h⟩
theorem Cl.one {w:World}{c:Value}{v:V}(h:Dat (fun k=>k<w.heap.size) w c v):Cl w [c] [v]:=⟨rfl,fun j c' v' h1 h2=>by
 match j with
 | 0=>simp at h1 h2;subst h1;subst h2;exact h
 | j+1=>simp at h1⟩
theorem Cl.append {w:World}{a b:List Value}{u v:List V}(h1:Cl w a u)(h2:Cl w b v):Cl w (a++b) (u++v):=by
 refine⟨by simp [h1.1,h2.1],fun j c x hc hx=>?_⟩
 by_cases hj:j<a.length
 ·rw [Qay hj]at hc
  rw [Qay (by rw [←h1.1];exact hj)]at hx
  exact h1.2 j c x hc hx
 rw [QaP (by omega)]at hc
 rw [QaP (by rw [←h1.1];omega)]at hx
 rw [←h1.1]at hx
 exact h2.2 _ c x hc hx
def Rd {H α:Type}(enc:TypeId×Value→H)(P:Program)(w:World)(N:Nat)(t:TypeId)(row:α→List V)(wf:α→DataW H→Prop):Prop:=
 ∀(fuel:Nat) (cs:List Value) (d:DataW H) (ps:List MemPlace),fuel≤N→DataW.trod enc P w 0 (fun _=>true) true fuel t cs=some (d,ps)→∃x,wf x d∧Cl w cs (row x)
def RdF {H α:Type}(enc:TypeId×Value→H)(P:Program)(w:World)(N:Nat)(off tot:Nat)(fs:List (Nat×Nat))(row:α→List V)(wf:α→List (DataW H)→Prop):Prop:=
 ∀(fuel:Nat) (cs:List Value) (xs:List (DataW H×List MemPlace)),fuel≤N→cs.length=off+tot→(fs.mapM fun f=>DataW.trod enc P w 0 (fun _=>true) true fuel f.1 ((cs.drop f.2).take (P.cellsOf f.1)))=some xs→
  ∃x,wf x (xs.map Prod.fst)∧Cl w (cs.drop off) (row x)
section
variable {H:Type}{enc:TypeId×Value→H}{P:Program}{w:World}{N:Nat}{t:TypeId}
theorem Rd.mono {α:Type}{M:Nat}{row:α→List V}{wf:α→DataW H→Prop}(h:Rd enc P w N t row wf)(hM:M≤N):Rd enc P w M t row wf:=fun fuel cs d ps hf e=>h fuel cs d ps (QaQ hf hM) e
theorem Rd.zero {α:Type}{row:α→List V}{wf:α→DataW H→Prop}:Rd enc P w 0 t row wf:=fun fuel cs d ps hf e=>by
 have:fuel=0:=by omega
 subst this
 simp [DataW.trod]at e
theorem Rd.map {α β:Type}{row:α→List V}{wf:α→DataW H→Prop}{row':β→List V}{wf':β→DataW H→Prop}(g:α→β)(h:Rd enc P w N t row wf)(hr:∀x,row x=row' (g x))(hw:∀x d,wf x d→wf' (g x) d):Rd enc P w N t row' wf':=fun fuel cs d ps hf e=>by
 obtain⟨x,h1,h2⟩:=h fuel cs d ps hf e
 exact⟨g x,hw x d h1,by rw [←hr];exact h2⟩
theorem Rd.int {k:IntKind}(ht:P.underlying t=some (.int k)):Rd enc P w N t (fun n:Int=>[V.i k n]) (fun n d=>(Lit.int k n).wf=true∧d=.lit (.int k n)):=by
 intro fuel cs d ps _ e
 cases fuel with
 | zero=>simp [DataW.trod]at e
 | succ fuel=>
  simp only [DataW.trod,ht]at e
  split at e
  all_goals first | (cases e;done) | (rename_i hq;cases hq;done) | skip
  rename_i hq
  cases hq
  split at e
  ·rename_i hc
   obtain⟨rfl,hwf⟩:=hc
   cases e
   exact⟨_,⟨hwf,rfl⟩,Cl.one (.i _ _)⟩
  cases e
theorem Rd.bool (ht:P.underlying t=some .bool):Rd enc P w N t (fun n:Bool=>[V.b n]) (fun n d=>d=.lit (.bool n)):=by
 intro fuel cs d ps _ e
 cases fuel with
 | zero=>simp [DataW.trod]at e
 | succ fuel=>
  simp only [DataW.trod,ht]at e
  split at e
  all_goals first | (cases e;done) | (rename_i hq;cases hq;done) | skip
  cases e
  exact⟨_,rfl,Cl.one (.b _)⟩
theorem Rd.string (ht:P.underlying t=some .string):Rd enc P w N t (fun n:ByteArray=>[V.s n]) (fun n d=>n.size≤maxLen∧d=.lit (.string n.data.toList)):=by
 intro fuel cs d ps _ e
 cases fuel with
 | zero=>simp [DataW.trod]at e
 | succ fuel=>
  simp only [DataW.trod,ht]at e
  split at e
  all_goals first | (cases e;done) | (rename_i hq;cases hq;done) | skip
  split at e
  ·rename_i hc
   cases e
   exact⟨_,⟨hc,rfl⟩,Cl.one (.s _)⟩
  cases e
theorem Qpq {α:Type}{Q:Nat→α→Prop}:∀n:Nat,(∀i,i<n→∃x,Q i x)→∃l:List α,l.length=n∧∀i x,l[i]? = some x→Q i x:=by
 intro n
 induction n with
 | zero=>intro _;exact⟨[],rfl,fun i x h=>by simp at h⟩
 | succ n ih=>
  intro h
  obtain⟨l,h1,h2⟩:=ih fun i hi=>h i (by omega)
  obtain⟨x,hx⟩:=h n (by omega)
  refine⟨l++[x],by simp [h1],fun i y hy=>?_⟩
  by_cases hi:i<l.length
  ·rw [Qay hi]at hy;exact h2 i y hy
  have:=(Qx.1 hy).1
  simp at this
  have:i=l.length:=by omega
  subst this
  simp at hy;subst hy;rw [h1];exact hx
def wfL {α:Type}(wf:α→DataW H→Prop)(l:List α)(d:DataW H):Prop:=l.length≤maxLen∧((d=.nil∧l=[])∨∃es sp,d=.slice es sp∧es.length=l.length∧∀(i:Nat) x e,l[i]? = some x→es[i]? = some e→wf x e)
theorem Rd.slice {α:Type}{e z:Nat}{row:α→List V}{wf:α→DataW H→Prop}(ht:P.underlying t=some (.slice e))(hz:P.cellsOf e=z)(hz0:0<z)(hrow:∀x,Qb8 z (row x))(he:Rd enc P w N e row wf):
  Rd enc P w N t (fun l:List α=>[V.sl z (l.map row)]) (wfL wf):=by
 subst hz
 intro fuel cs d ps hN h
 cases fuel with
 | zero=>simp [DataW.trod]at h
 | succ fuel=>
  simp only [DataW.trod,ht]at h
  split at h
  all_goals first | (cases h;done) | (rename_i hq;cases hq;done) | skip
  ·cases h;exact⟨[],⟨Nat.zero_le _,.inl ⟨rfl,rfl⟩⟩,Cl.one (.sl0 _ _ _)⟩
  rename_i a len cap hq
  cases hq
  split at h
  ·rename_i hc
   obtain⟨_,hlc,hcm⟩:=hc
   obtain⟨elems,hel,h⟩:=QgQ.1 h
   obtain⟨rest,_,h⟩:=Q8.1 h
   have hlen:elems.length=len:=by simpa using mapM_some_length hel
   have hat:∀i,i<len→∃y rc,elems[i]? = some y∧w.cells? 0 (a.add (i*P.cellsOf e)) (P.cellsOf e)=some rc∧DataW.trod enc P w 0 (fun _=>true) true fuel e rc=some y:=fun i hi=>by
    have:=mapM_some_get hel i i (by simp [hi])
    obtain⟨y,hy⟩:∃y,elems[i]? = some y:=⟨_,QI (by omega)⟩
    rw [hy]at this
    obtain⟨rc,h1,h2⟩:=QgQ.1 this
    exact⟨y,rc,hy,h1,h2⟩
   obtain⟨l,hl,hQ⟩:=Qpq (Q:=fun i x=>∃y rc,elems[i]? = some y∧w.cells? 0 (a.add (i*P.cellsOf e)) (P.cellsOf e)=some rc∧wf x y.1∧Cl w rc (row x)) len fun i hi=>by
    obtain⟨y,rc,h1,h2,h3⟩:=hat i hi
    obtain⟨x,h4,h5⟩:=he fuel rc y.1 y.2 (by omega) h3
    exact⟨x,y,rc,h1,h2,h4,h5⟩
   have hd:d=.slice (elems.map (·.1)) (rest.map (·.1)):=by cases h;rfl
   refine⟨l,⟨by omega,.inr ⟨_,_,hd,by simp [hl,hlen],fun i x e' hx he'=>?_⟩⟩,Cl.one ?_⟩
   ·obtain⟨y,rc,h1,_,h3,_⟩:=hQ i x hx
    rw [Q2,h1]at he'
    cases he';exact h3
   by_cases h0:len=0
   ·have:l=[]:=Qf9.1 (by omega)
    subst this;subst h0;exact .sl0 _ _ _
   obtain⟨b,off,spot⟩:=a
   obtain⟨y0,rc0,_,h02,_⟩:=hat 0 (by omega)
   have hs:spot=none:=by
    obtain⟨_,h2,h3⟩:=World.cells?_some h02
    have h4:=h3 0 hz0
    obtain⟨c0,hc0⟩:∃c0,rc0[0]? = some c0:=⟨_,QI (by omega)⟩
    rw [hc0]at h4
    simpa [Addr.add] using World.cell?_spot h4
   subst hs
   have hb:b<w.heap.size:=by
    have hb:=World.cells?_block h02 hz0
    rwa [WideShapes.add_plain]at hb
   have hcell:∀i,i<len→∀rc,w.cells? 0 ((⟨b,off,none⟩:Addr).add (i*P.cellsOf e)) (P.cellsOf e)=some rc→rc.length=P.cellsOf e∧∀j,j<P.cellsOf e→w.cell? ⟨b,off+(i*P.cellsOf e+j),none⟩=rc[j]? := fun i hi rc h=>by
    obtain⟨_,h2,h3⟩:=World.cells?_some h
    refine⟨h2,fun j hj=>?_⟩
    have:=h3 j hj
    rw [WideShapes.add_plain,WideShapes.add_plain]at this
    rw [←Qef];exact this
   refine .sl b off len cap (P.cellsOf e) (l.map row) (fun j=>(w.cell? ⟨b,off+j,none⟩).getD undef) hb (by simp [hl]) hlc (fun r hr=>by obtain⟨x,_,rfl⟩:=QaE.1 hr;exact hrow x) (fun j hj=>?_) (fun i r hr j v hv=>?_)
   ·have hij:j / P.cellsOf e<len:=Nat.div_lt_of_lt_mul (by rw [Nat.mul_comm];exact hj)
    obtain⟨y,rc,_,h2,_⟩:=hat (j / P.cellsOf e) hij
    obtain⟨h3,h4⟩:=hcell _ hij rc h2
    have h5:=h4 (j % P.cellsOf e) (Nat.mod_lt _ hz0)
    rw [Nat.mul_comm (j / P.cellsOf e),Nat.div_add_mod]at h5
    rw [h5]
    have:j % P.cellsOf e<rc.length:=by rw [h3];exact Nat.mod_lt _ hz0
    rw [QI this];rfl
   rw [Q2]at hr
   obtain⟨x,hx,rfl⟩:=Q8.1 hr
   have hi:i<len:=by rw [←hl];exact(Qx.1 hx).1
   obtain⟨y,rc,_,h2,_,h3⟩:=hQ i x hx
   obtain⟨h4,h5⟩:=hcell i hi rc h2
   have hj:j<P.cellsOf e:=by rw [←(hrow x).1];exact(Qx.1 hv).1
   have h6:=h5 j hj
   obtain⟨c,hc⟩:∃c,rc[j]? = some c:=⟨_,QI (by omega)⟩
   rw [hc]at h6
   show Dat _ w ((w.cell? ⟨b,off+(i*P.cellsOf e+j),none⟩).getD undef) v
   rw [h6]
   exact h3.2 j c v hc hv
  cases h
theorem RdF.nil {off:Nat}:RdF enc P w N off 0 [] (fun _:Unit=>[]) (fun _ xs=>xs=[]):=fun fuel cs xs _ hl h=>by
 simp at h
 subst h
 exact⟨(),rfl,by rw [List.drop_of_length_le (by omega)];exact Cl.nil⟩
theorem RdF.cons {α β:Type}(t off z:Nat){tot:Nat}{fs:List (Nat×Nat)}{row1:α→List V}{row2:β→List V}{wf1:α→DataW H→Prop}{wf2:β→List (DataW H)→Prop}(hz:P.cellsOf t=z)
  (h1:Rd enc P w N t row1 wf1) (h2:RdF enc P w N (off+z) tot fs row2 wf2):RdF enc P w N off (z+tot) ((t,off)::fs) (fun x:α×β=>row1 x.1++row2 x.2) (fun x ds=>∃d r,ds=d::r∧wf1 x.1 d∧wf2 x.2 r):=by
 intro fuel cs xs hN hl h
 subst hz
 rw [List.mapM_cons]at h
 obtain⟨y,hy,h⟩:=QgQ.1 h
 obtain⟨ys,hys,h⟩:=QgQ.1 h
 cases h
 obtain⟨x1,a1,a2⟩:=h1 fuel _ y.1 y.2 hN hy
 obtain⟨x2,b1,b2⟩:=h2 fuel cs ys hN (by omega) hys
 refine⟨(x1,x2),⟨y.1,ys.map Prod.fst,rfl,a1,b1⟩,?_⟩
 have:cs.drop off=(cs.drop off).take (P.cellsOf t)++cs.drop (off+P.cellsOf t):=by
  rw [←List.drop_drop,QkM]
 rw [this]
 exact a2.append b2
def Qkc (P:Program)(t:TypeId)(fs:List (Nat×Nat))(tot:Nat):Bool:=match P.underlying t with
 | some (.struct gs)=>(gs.toList.map fun f=>(f.type,f.offset))==fs&&P.cellsOf t==tot
 | _=>false
theorem Qkm {t tot:Nat}{fs:List (Nat×Nat)}(h:Qkc P t fs tot=true):∃gs,P.underlying t=some (.struct gs)∧(gs.toList.map fun f=>(f.type,f.offset))=fs∧P.cellsOf t=tot:=by
 unfold Qkc at h
 split at h
 ·rename_i gs hg
  rw [Qu,beq_iff_eq,beq_iff_eq]at h
  exact⟨gs,hg,h.1,h.2⟩
 cases h
theorem Rd.struct {α:Type}{fs:List (Nat×Nat)}{tot:Nat}{row:α→List V}{wf:α→List (DataW H)→Prop}(hB:Qkc P t fs tot=true)(hf:RdF enc P w N 0 tot fs row wf):
  Rd enc P w (N+1) t row (fun x d=>∃ds,d=.agg ds∧wf x ds):=by
 obtain⟨gs,ht,hfs,hc⟩:=Qkm hB
 intro fuel cs d ps hN h
 cases fuel with
 | zero=>simp [DataW.trod]at h
 | succ fuel=>
  simp only [DataW.trod,ht]at h
  split at h
  ·rename_i hl
   obtain⟨xs,hxs,h⟩:=Q8.1 h
   cases h
   obtain⟨x,a1,a2⟩:=hf fuel cs xs (by omega) (by rw [hl,hc];omega) (by rw [←hfs,List.mapM_map];exact hxs)
   exact⟨x,⟨_,rfl,a1⟩,a2⟩
  cases h
def Qmv (P:Program)(t e n tot:Nat)(fs:List (Nat×Nat)):Bool:=match P.underlying t with
 | some (.array m e')=>m==n&&e'==e&&P.cellsOf t==tot&&((List.range n).map fun i=>(e,i*P.cellsOf e))==fs
 | _=>false
theorem Qnr {t e n tot:Nat}{fs:List (Nat×Nat)}(h:Qmv P t e n tot fs=true):P.underlying t=some (.array n e)∧P.cellsOf t=tot∧((List.range n).map fun i=>(e,i*P.cellsOf e))=fs:=by
 unfold Qmv at h
 split at h
 ·rename_i m e' hg
  simp only [Qu,beq_iff_eq]at h
  obtain⟨⟨⟨rfl,rfl⟩,h⟩,h2⟩:=h
  exact⟨hg,h,h2⟩
 cases h
theorem Rd.array {α:Type}{e n tot:Nat}{fs:List (Nat×Nat)}{row:α→List V}{wf:α→List (DataW H)→Prop}(hB:Qmv P t e n tot fs=true)(hf:RdF enc P w N 0 tot fs row wf):
  Rd enc P w (N+1) t row (fun x d=>∃ds,d=.agg ds∧wf x ds):=by
 obtain⟨ht,hc,hfs⟩:=Qnr hB
 intro fuel cs d ps hN h
 cases fuel with
 | zero=>simp [DataW.trod]at h
 | succ fuel=>
  simp only [DataW.trod,ht]at h
  split at h
  ·rename_i hl
   obtain⟨xs,hxs,h⟩:=Q8.1 h
   cases h
   obtain⟨x,a1,a2⟩:=hf fuel cs xs (by omega) (by rw [hl,hc];omega) (by rw [←hfs,List.mapM_map];exact hxs)
   exact⟨x,⟨_,rfl,a1⟩,a2⟩
  cases h
def okI (k:IntKind)(n:Int):Prop:=k.min≤n∧n≤k.max
def okL {α:Type}(ok:α→Prop)(l:List α):Prop:=l.length≤maxLen∧∀x∈l,ok x
theorem Qpr {k:IntKind}{n:Int}{d:DataW H}(h:(Lit.int k n).wf=true∧d=.lit (.int k n)):okI k n:=by
 have:=h.1
 simp only [Lit.wf,Qu,Qbw]at this
 exact this
theorem QnT {α:Type}{ok:α→Prop}{l:List α}{d:DataW H}(h:wfL (fun x _=>ok x) l d):okL ok l:=by
 refine⟨h.1,fun x hx=>?_⟩
 rcases h.2 with⟨_,rfl⟩|⟨es,sp,_,h3,h4⟩
 ·simp at hx
 obtain⟨i,hi⟩:=Qfg.1 hx
 have hlt:i<es.length:=by rw [h3];exact(Qx.1 hi).1
 exact h4 i x _ hi (QI hlt)
theorem Qow {w:World}{r:Reach}{base t tot:Nat}{v:Value}{fs:List (Nat×Nat)}(h:Qkc P t fs tot=true)(hv:Value.okWide P w r base t v):∃cs,v=.agg cs:=by
 obtain⟨gs,h1,_⟩:=Qkm h
 obtain⟨cs,h2,_⟩:=WideShapes.okWide_struct h1 hv
 exact⟨cs,h2⟩
theorem Qk0 {z:Nat}{r:List V}(h:(Nat.beq r.length z&&r.all V.one)=true):Qb8 z r:=by
 rw [Qu,QN]at h
 exact⟨QZ h.1,h.2⟩
end
section
variable {H:Type}{enc:TypeId×Value→H}{P:Program}
theorem Qh.law {f:FuncId}{us:List V}{args:Array Value}{W:World}(h:Qh P f us [] (Qp (.b true) []))(hG:QiU P (fun k=>k<W.heap.size) W)(hs:args.size=us.length)
  (ha:∀(j:Nat) x v,args[j]? = some x→us[j]? = some v→Dat (fun k=>k<W.heap.size) W x v):Calls P f args W fun e w'=>e=.returned (.bool true)∧Below W.heap.size W w':=by
 refine(h (fun k=>k<W.heap.size) (fun _=>none) W args ⟨fun k hk=>hk,fun _ _ _ _ _ h=>(by cases h),fun _ _ h=>(by cases h),hs,fun j x v h1 h2=>.dat (ha j x v h1 h2),fun _ _ h=>(by cases h)⟩ hG).mono ?_
 rintro e w' ⟨x,v,hs',φ',rfl,⟨rfl,_⟩,out⟩
 exact⟨by rw [out.rep.b_inv],out.os,out.tape,out.output,out.size,fun k hk=>out.kept k hk fun _ _ h=>by cases h⟩
theorem Qjm (hl:laidOutB P=true){W W':World}(hb:Below W.heap.size W W'):∀{ts:List TypeId} {vs:List Value} {ds:List (DataW H)} {ps:List MemPlace},(∀t∈ts,P.readableRec t=true∧t<P.types.size)→
  DataW.TrodAll enc P W 0 (fun _=>true) true ts vs ds ps→(∀x∈ps,x.block<W.heap.size)→DataW.TrodAll enc P W' 0 (fun b=>decide (b<W.heap.size)) true ts vs ds ps
 | [],[],[],_,_,h,_=>h
 | t::ts,v::vs,d::ds,_,hr,⟨p,q,h1,h2,e⟩,hlt=>⟨p,q,Below.trod hl (hr t (Qa1)).1 (hr t (Qa1)).2 h1 hb (fun x hx=>hlt x (by rw [e];exact QgO _ hx)),
   Qjm hl hb (fun t ht=>hr t (Qbu _ ht)) h2 (fun x hx=>hlt x (by rw [e];exact List.mem_append_right _ hx)),e⟩
theorem Qox {f:Func}{s:ChangeSpec}{apart fresh:Bool}{W W':World}{args:Array Value}{ds:List (DataW H)}{before:List MemPlace}{tb:TypeId}(hl:laidOutB P=true)(hr:∀t∈f.params.toList,P.readableRec t=true∧t<P.types.size)
  (hW:DataW.Whole enc P f.params.toList s.vars apart W args.toList ds [] before) (hv:s.vars=[]) (hb:Below W.heap.size W W') (hrt:f.resultTypes=#[tb]) (htb:P.underlying tb=some .bool)
  (hres:(s.fn H (ds++[])).results=[.lit (.bool true)]) (hargs:(s.fn H (ds++[])).args=ds) (hvars:(s.fn H (ds++[])).vars=[]):s.post enc P f apart fresh false false W args (.bool true) W':=by
 have hW0:=hW
 obtain⟨p,q,hA,hV,rfl,_,_⟩:=hW
 have hlt:=hW0.lt
 rw [hv]at hV
 have hq:q=[]:=hV
 subst hq
 refine⟨ds,[],_,[],p,[],hW0,?_,?_,?_,?_,fun h=>by cases h⟩
 ·rw [hres,hrt]
  exact⟨[],[],shut_bool htb true,rfl,rfl⟩
 ·rw [hargs]
  exact Qjm hl hb hr hA fun x hx=>hlt x (QgO _ hx)
 ·rw [hvars,hv];rfl
 exact World.keptBut_mono (fun p hp=>hp.elim) (hb.frame (fun _=>False))
theorem Cl.arg1 {w:World}{v:Value}{x:V}(hv:v.cells.toList=[v])(h:Cl w v.cells.toList [x]):Dat (fun k=>k<w.heap.size) w v x:=h.2 0 v x (by rw [hv];rfl) rfl
theorem Cl.argS {w:World}{cs:Array Value}{vs:List V}(h:Cl w (Value.agg cs).cells.toList vs):Dat (fun k=>k<w.heap.size) w (.agg cs) (.agg vs):=by
 refine .agg cs vs (by simpa [Value.cells] using h.1) fun j x v hx hv=>h.2 j x v (by simpa [Value.cells] using hx) hv
theorem Rd.open {α:Type}{w:World}{t:TypeId}{row:α→List V}{wf:α→DataW H→Prop}{v:Value}{d:DataW H}{p:List MemPlace}(h:∀N,Rd enc P w N t row wf)(hd:DataW.Trod enc P w 0 (fun _=>true) true t v d p):∃x,wf x d∧Cl w v.cells.toList (row x):=by
 obtain⟨n,hn⟩:=hd
 exact h n n _ _ _ (QaX _) hn
end
end Go.Vm
namespace Go.Vm
open Go Go.RowKit
section
variable {P:Program}{C:Ctx}{Q:Exit→St→Prop}{σ:St}{ks:List Fr}{o:Oper}
theorem QlK {σ':St}{φ φ':Prop}{d f:Nat}{vs us:List V}{M N:List (Nat×Nat)}{dead:List Nat}{ms:List Mode}{outs hsC:List (Nat×Ob)}{r:V}
  (hus:Qi2 (bkM M) ms vs=some us) (hC:QgC (bkM M) (look σ.hp) M=some hsC)
  (e:cmV P σ φ d f vs M N dead ms outs r=some (σ',φ')):∃hsN r',QdC σ M N dead outs=true∧(M.map Prod.fst).Nodup∧Vws σ.hp false false (Qc0 M) (fun a b=>look M b=some a) vs us∧Qgz σ.hp false false (Qc0 M) (fun a b=>look M b=some a) σ.hp M hsC∧
   Qgz [] false false [] (fun c b=>look N b=some c) outs N hsN∧Vw [] false false [] (fun c b=>look N b=some c) r r'∧σ'=(σ.after dead hsN).put d r':=by
 unfold cmV at e
 replace e:=QO e;obtain⟨e1,e⟩:=e
 simp only [Qu]at e1
 obtain⟨⟨h1,h2⟩,h3⟩:=e1
 have h2:=Qdl.1 h2
 have h3:=Qdl.1 h3
 have inj:QfR M=true∧QfR N=true:=by
  simp only [QdC,Qu]at h1
  exact⟨h1.1.1.1,h1.1.1.2⟩
 have mM:∀a b,bkM M a=some b→look M b=some a:=fun a b h=>Qcq inj.1 (Qg5 h) h2
 have mN:∀a b,bkM N a=some b→look N b=some a:=fun a b h=>Qcq inj.2 (Qg5 h) h3
 simp only [hus,hC]at e
 split at e
 ·rename_i hsN hN
  split at e
  ·rename_i r' hr
   cases e
   exact⟨hsN,r',h1,h2,Qic mM hus,Qeg mM hC,Qeg mN hN,Qgk mN hr,rfl⟩
  cases e
 cases e
theorem AK.callE {ι:Type}[Inhabited ι]{Φ:ι→Prop}{d f n:Nat}{ops:Array Oper}{rest:List Oper}{vs us:List V}{hsC:List (Nat×Ob)}(M N:List (Nat×Nat))(dead:List Nat)(ms:List Mode)(outs:ι→List (Nat×Ob))(r:ι→V)(σ':ι→St)
  (hg:o.guard=none) (hCn:QcC P C n) (hE:Qaj P C o σ f vs) (hd:o.dst=some d) (hn:Nat.ble (d+1) C.n=true)
  (hus:Qi2 (bkM M) ms vs=some us) (hC:QgC (bkM M) (look σ.hp) M=some hsC)
  (hc:Qh P f us hsC fun v hs=>∃x,Φ x∧Qp (r x) (outs x) v hs)
  (e:∀x,∃φ',cmV P σ True d f vs M N dead ms (outs x) (r x)=some (σ' x,φ'))
  (k:∀x,Φ x→AK P C Q (.o ops rest) ks (σ' x)):AK P C Q (.o ops (o::rest)) ks σ:=by
 intro a w ⟨φ,hr⟩
 simp only [wpListIn,Region.wanted,hg,if_true]
 refine⟨fun _ _=>trivial,?_⟩
 obtain⟨vals,hex,h1,h2⟩:=hE φ a w hr
 rw [Qio hex,Oper.uponIn_enter]
 obtain⟨_,e0⟩:=e default
 obtain⟨_,_,n1,n2,hv,hobs,_,_,_⟩:=QlK hus hC e0
 have hN0:=Qj7.of n1 n2
 refine⟨(fun h=>by cases h),Qjv ((hc _ _ w _ (Ins.of_vals hr h1 h2 hN0.injM hN0.param hv hobs) ((hr.glob hCn.g).mono fun _ h=>.inl h)).mono ?_)⟩
 rintro e' w' ⟨x,v,hs',φ',rfl,⟨i,hΦ,rfl,hso⟩,hout⟩
 obtain⟨_,ei⟩:=e i
 obtain⟨hsN,r',n1,n2,_,_,hback,hr',hσ⟩:=QlK hus hC ei
 have hN:=Qj7.of n1 n2
 obtain⟨h3,h4⟩:=hr.after hN hout hso (fun c s h=>by
  obtain⟨ob',e1⟩:=hobs.get.2 c s h
  obtain⟨s',ob,e2,e3,_⟩:=hobs.get.1 c ob' e1
  rw [h]at e2;cases e2;exact⟨ob,e3⟩) hback
 refine k i hΦ _ _ ⟨QeT φ M N dead φ',?_⟩
 rw [hd,hσ]
 exact h3.put (QM hn) (h4 hr')
end
end Go.Vm
namespace Go.Vm
open Go Go.RowKit
end Go.Vm
namespace Go.Vm
open Go Go.RowKit
variable {H:Type}{P:Program}
def Sz (P:Program)(t:Nat)(d:DataW H):Prop:=∀n∈d.weights P t,n≤reachBytes
theorem Sz.all {ts:List TypeId}{ds:List (DataW H)}(h:(DataW.weightsEach P ts ds).all (·≤reachBytes)=true){j:Nat}{t:Nat}{d:DataW H}(ht:ts[j]? = some t)(hd:ds[j]? = some d):Sz P t d:=fun n hn=>by
 have:=QN.1 h n (DataW.weights_mem_each ht hd n hn)
 simpa using this
theorem Sz.field {t:Nat}{fs:Array Field}(hu:P.underlying t=some (.struct fs)){ds:List (DataW H)}(h:Sz P t (.agg ds)){j:Nat}{u:Nat}{d:DataW H}(ht:(fs.toList.map (·.type))[j]? = some u)(hd:ds[j]? = some d):Sz P u d:=fun n hn=>h n (by
 simp only [DataW.weights,hu]
 exact DataW.weights_mem_each ht hd n hn)
theorem QmT {e:Nat}{d:DataW H}{n:Nat}(hn:n∈d.weights P e):∀{ds:List (DataW H)},d∈ds→n∈DataW.weightsAll P e ds
 | [],h=>by cases h
 | x::ds,h=>by
  simp only [DataW.weightsAll,Qff]
  rcases Qaa.1 h with rfl | h
  ·exact .inl hn
  exact .inr (QmT hn h)
theorem szL {α:Type}{t e:Nat}{ok sz:α→Prop}{l:List α}{d:DataW H}(hu:P.underlying t=some (.slice e))(h:wfL (fun x d=>ok x∧(Sz P e d→sz x)) l d):okL ok l∧(Sz P t d→l.length*P.bytesOf e≤reachBytes∧∀x∈l,sz x):=by
 obtain⟨h1,⟨rfl,rfl⟩|⟨es,sp,rfl,hl,hw⟩⟩:=h
 ·exact⟨⟨h1,fun x h=>by cases h⟩,fun _=>⟨by simp,fun x h=>by cases h⟩⟩
 have key:∀x∈l,∃d∈es,ok x∧(Sz P e d→sz x):=fun x hx=>by
  obtain⟨i,hi,rfl⟩:=QkL.1 hx
  have hi2:i<es.length:=by omega
  exact⟨es[i],Qb7 hi2,hw i _ _ (QI hi) (QI hi2)⟩
 refine⟨⟨h1,fun x hx=>by obtain⟨_,_,h,_⟩:=key x hx;exact h⟩,fun hs=>⟨?_,fun x hx=>?_⟩⟩
 ·have:=hs ((es.length+sp.length)*P.bytesOf e) (by simp only [DataW.weights,hu];exact Qa1)
  rw [←hl]
  exact QaQ (Qaz _ (Nat.le_add_right _ _)) this
 obtain⟨d,hd,_,h⟩:=key x hx
 refine h fun n hn=>hs n ?_
 simp only [DataW.weights,hu]
 exact Qbu _ (QgO _ (QmT hn hd))
theorem Qp3 {α:Type}{t e b:Nat}{ok:α→Prop}{l:List α}{d:DataW H}(hu:P.underlying t=some (.slice e))(hb:P.bytesOf e=b)(h:wfL (fun x _=>ok x) l d):okL ok l∧(Sz P t d→l.length*b≤reachBytes):=by
 subst hb
 have:=szL (P:=P) (t:=t) (e:=e) (sz:=fun _=>True) hu (show wfL (fun x d=>ok x∧(Sz P e d→True)) l d from⟨h.1,h.2.imp id fun ⟨es,sp,h1,h2,h3⟩=>⟨es,sp,h1,h2,fun i x e a b=>⟨h3 i x e a b,fun _=>trivial⟩⟩⟩)
 exact⟨this.1,fun hs=>(this.2 hs).1⟩
theorem Qp4 {α:Type}{t e b:Nat}{ok sz:α→Prop}{l:List α}{d:DataW H}(hu:P.underlying t=some (.slice e))(hb:P.bytesOf e=b)(h:wfL (fun x d=>ok x∧(Sz P e d→sz x)) l d):okL ok l∧(Sz P t d→l.length*b≤reachBytes∧∀x∈l,sz x):=by
 subst hb;exact szL hu h
theorem Qmw {enc:TypeId×Value→H}{a:Assume}{C:Checked}{os:Os}{f:FuncId}{fn:Func}{s:ChangeSpec}{conds:List PathCond}{apart fresh handsOn again:Bool}
  (own:ownKnob C.prog.godebug=none) (started:os.Started) (noInit:C.prog.inits.idxOf? f=none) (hfn:C.prog.funcs[f]? = some fn)
  (witness:∃(w:World) (tape:Tape) (i:Input),w.os=os∧(w.forCall tape i).Shaped C.prog∧i.vars=[]∧Input.okWide C.prog (w.forCall tape i) .any w.heap.size f i∧
   s.pre6 enc C.prog fn conds apart (w.forCall tape i).memory i.args∧a.holds C.prog (lone (Frame.enter C.prog f i.args .normal) [] (w.forCall tape i)))
  (step:∀(W:World) (base:Nat) (args:Array Value) (ds gs:List (DataW H)) (before:List MemPlace),
   (∀(j:Nat) t v,fn.params[j]? = some t→args[j]? = some v→Value.okWide C.prog W .any base t v)→
   DataW.Whole enc C.prog fn.params.toList s.vars apart W args.toList ds gs before→
   conds.all (PathCond.test C.prog ⟨fn.params.toList,ds,s.plain.varTypes C.prog,gs⟩)=true→
   (DataW.weightsEach C.prog (fn.params.toList++s.plain.varTypes C.prog) (ds++gs)).all (·≤reachBytes)=true→
   a.holds C.prog (lone (Frame.enter C.prog f args .normal) [] W)→
   Calls C.prog f args W fun e W'=>∃v,e=.returned v∧s.post enc C.prog fn apart fresh handsOn again W args v W'):
  ReturnsInHanded a C os f .any (s.pre6 enc C.prog fn conds apart) (s.post enc C.prog fn apart fresh handsOn again):=by
 refine returnsInHanded_of_calls own started noInit witness ?_
 intro w tape i _ _ _ hok hpre hholds
 obtain⟨_,_,_,fn',hfn',_,_,_,_,hval⟩:=hok
 have e:fn'=fn:=Option.some.inj (hfn'.symm.trans hfn)
 subst e
 obtain⟨⟨ds,gs,before,hw,hc⟩,hz⟩:=hpre
 have hw':=DataW.Whole.of_heap (w':=w.forCall tape i) (by rfl) hw
 refine(step (w.forCall tape i) w.heap.size i.args ds gs before hval hw' hc (hz.weights hw) hholds).mono fun e W' ⟨v,he,hp⟩=>?_
 subst he
 exact ChangeSpec.post_blind hp
end Go.Vm
namespace Go.Vm
open Go Go.RowKit
section
variable {κ α:Type}[DecidableEq κ]
theorem Qk1 {π:Type}{L:List (Nat×π)}{seen:Array Nat}{y:Nat}:QaY L (seen.push y)=(QaY L seen).filter fun q=>!(q.1==y):=by
 unfold QaY
 rw [List.filter_filter]
 apply List.filter_congr
 intro q _
 rw [QiI]
 simp [Array.mem_push]
 constructor
 ·rintro ⟨h1,h2⟩;exact⟨h2,h1⟩
 rintro ⟨h1,h2⟩;exact⟨h2,h1⟩
structure QgW (L L':List (Nat×(κ×α))) (seen:Array Nat):Prop where
 keys:L'.map (·.2.1)=L.map (·.2.1)
 left:QaY L' seen=QaY L seen
theorem QgW.refl {L:List (Nat×(κ×α))}{seen:Array Nat}:QgW L L seen:=⟨rfl,rfl⟩
theorem QgW.push {L L':List (Nat×(κ×α))}{seen:Array Nat}(h:QgW L L' seen)(y:Nat):QgW L L' (seen.push y):=⟨h.keys,by rw [Qk1,Qk1,h.left]⟩
theorem QgW.nil {L L':List (Nat×(κ×α))}{seen:Array Nat}(h:QgW L L' seen)(hq:QaY L' seen=[]):QaY L seen=[]:=by rw [←h.left];exact hq
theorem QgW.mem {L L':List (Nat×(κ×α))}{seen:Array Nat}(h:QgW L L' seen){q:Nat×(κ×α)}(hq:q∈QaY L seen):q∈QaY L' seen:=by rw [h.left];exact hq
end
section
variable {P:Program}{C:Ctx}{σ:St}{o:Oper}{κ α:Type}[DecidableEq κ]
end
theorem AK.know {P:Program}{C:Ctx}{Q:Exit→St→Prop}{σ:St}{ks:List Fr}{pt:Pt}{p:Prop}(h:∀a w,R C σ a w→p)(k:p→AK P C Q pt ks σ):AK P C Q pt ks σ:=
 AK.weakenE (ι:=PLift p) (f:=fun _=>σ) (fun a w hR=>⟨⟨h a w hR⟩,hR⟩) fun i=>k i.down
end Go.Vm
namespace Go.Vm
open Go Go.RowKit
def V.lo1 : V→V
 | .sln _ z rs=>.sl z rs
 | v=>v
def V.lo2 : V→V
 | .sln _ z rs=>.sl z (rs.map (List.map V.lo1))
 | v=>v
def V.lo3 : V→V
 | .tup cs=>.tup (cs.map V.lo2)
 | v=>v.lo2
theorem V.lo1_one (v:V):v.lo1.one=v.one:=by cases v<;>rfl
theorem Dat.lo {I:Nat→Prop}{w:World}{x:Value}{v:V}(d:Dat I w x v):Dat I w x v.lo1:=by cases v<;>first | exact d | exact d.lo1
theorem Qb8.lo {z:Nat}{r:List V}(h:Qb8 z r):Qb8 z (r.map V.lo1):=⟨by simpa using h.1,fun v hv=>by obtain⟨u,hu,rfl⟩:=QaE.1 hv;rw [V.lo1_one];exact h.2 u hu⟩
theorem Dat.loR {I:Nat→Prop}{w:World}{x:Value}{z:Nat}{rs:List (List V)}(d:Dat I w x (.sl z rs)):Dat I w x (.sl z (rs.map (List.map V.lo1))):=by
 cases d with
 | sl0=>exact .sl0 _ _ _
 | sl b off len cap _ _ c hI hl hc hr hcell hd=>
  refine .sl b off len cap z _ c hI (by simpa using hl) hc (fun r hr'=>?_) hcell (fun i r hi j v hj=>?_)
  ·obtain⟨s,hs,rfl⟩:=QaE.1 hr';exact(hr s hs).lo
  rw [Q2]at hi
  obtain⟨s,hs,rfl⟩:=Q8.1 hi
  rw [Q2]at hj
  obtain⟨u,hu,rfl⟩:=Q8.1 hj
  exact(hd i s hs j u hu).lo
theorem Rep.lo2 {φ:Nat→Option Blk}{I:Nat→Prop}{w:World}{x:Value}{v:V}(d:Rep φ I w x v):Rep φ I w x v.lo2:=by
 cases v with
 | sln β z rs=>cases d with | dat d=>exact .dat d.lo1.loR
 | _=>exact d
theorem Rep.lo3 {φ:Nat→Option Blk}{I:Nat→Prop}{w:World}{x:Value}{v:V}(d:Rep φ I w x v):Rep φ I w x v.lo3:=by
 cases v with
 | tup cs=>
  obtain⟨xs,rfl,hs,hr⟩:=d.tup_inv
  refine .tup xs _ (by simpa using hs) fun j y u hy hu=>?_
  rw [Q2]at hu
  obtain⟨s,hs',rfl⟩:=Q8.1 hu
  exact(hr j y s hy hs').lo2
 | sln β z rs=>exact d.lo2
 | _=>exact d
theorem QW.lo {P:Program}{f:FuncId}{us:List V}{hs:List (Nat×Ob)}{r r':V}(h:QW 0 P f us hs (Qp r []))(e:r.lo3=r'):Qh P f us hs (Qp r' []):=by
 subst e
 exact fun S φ w vals hi hG=>(h S φ w vals (Nat.zero_le _) hi hG).mono fun e w' ⟨x,v,hs',φ',h1,⟨h2,_⟩,ho⟩=>by
  subst h2
  exact⟨x,v.lo3,hs',φ',h1,⟨rfl,fun c ob h=>by cases h⟩,{ ho with rep:=ho.rep.lo3 }⟩
theorem QW.loO {P:Program}{f:FuncId}{us:List V}{hs:List (Nat×Ob)}{m z:Nat}{rs rs':List (List V)}(h:QW 0 P f us hs (Qp (.own 600 m) [(600,.arr z rs)]))(e:rs.map (List.map V.lo1)=rs'):Qh P f us hs (Qp (.own 600 m) [(600,.arr z rs')]):=by
 subst e
 exact fun S φ w vals hi hG=>(h S φ w vals (Nat.zero_le _) hi hG).mono fun e w' ⟨x,v,hs',φ',h1,⟨h2,h3⟩,ho⟩=>by
  subst h2
  have hl:=h3 600 _ rfl
  refine⟨x,_,(600,.arr z (rs.map (List.map V.lo1)))::hs',φ',h1,⟨rfl,fun c ob h=>?_⟩,{ ho with dom:=fun o B hB=>?_,stay:=⟨ho.stay.1,fun o ob B h1 h2 h3=>ho.stay.2 o ob B h1 (by rwa [Ql _ _ (by omega)]at h2) h3⟩,heap:=fun o ob hob=>?_ }⟩
  ·by_cases e:600=c
   ·subst e;rw [Qn]at h ⊢;exact h
   rw [Ql _ _ e]at h;cases h
  ·by_cases e:600=o
   ·subst e;exact⟨_,Qn _ _ _⟩
   rw [Ql _ _ e];exact ho.dom o B hB
  by_cases e:600=o
  ·subst e
   rw [Qn]at hob;cases hob
   rcases ho.heap 600 _ hl with⟨B,hB,a1,a2,a3,cs,E,a4,a5,a6⟩|⟨hn,hz⟩
   ·refine .inl ⟨B,hB,a1,by simpa using a2,fun r hr=>?_,cs,E,a4,a5,fun i r hi j v hj=>?_⟩
    ·obtain⟨s,hs,rfl⟩:=QaE.1 hr;exact(a3 s hs).lo
    rw [Q2]at hi
    obtain⟨s,hs,rfl⟩:=Q8.1 hi
    rw [Q2]at hj
    obtain⟨u,hu,rfl⟩:=Q8.1 hj
    obtain⟨y,hy,hd⟩:=a6 i s hs j u hu
    exact⟨y,hy,hd.lo⟩
   have hz:rs=[]:=hz
   subst hz
   exact .inr ⟨hn,rfl⟩
  rw [Ql _ _ e]at hob;exact ho.heap o ob hob
section
variable {P:Program}{C:Ctx}{Q:Exit→St→Prop}{σ σ':St}{ks:List Fr}{ops:Array Oper}{o:Oper}{l:List Oper}
def Qns {ι:Type _}(P:Program)(C:Ctx)(o:Oper)(σ:St)(f:ι→St):Prop:=
 ∀a w,R C σ a w→∀(next:Act→World→Prop) (Q:Exit→Act→World→Prop),(∀i a' w',R C (f i) a' w'→next a' w')→o.wpIn C.F 0 P a w next Q
theorem AK.opE {ι:Type _}{f:ι→St}(hg:o.guard=none)(h:Qns P C o σ f)(k:∀i,AK P C Q (.o ops l) ks (f i)):AK P C Q (.o ops (o::l)) ks σ:=by
 intro a w hR
 simp only [wpListIn,Region.wanted,hg,if_true]
 exact(h a w hR _ _ fun i a' w' hR'=>k i a' w' hR')
def Pl (I:Nat→Prop)(w:World)(β k:Nat):Prop:=I k∧β≤k∧∃cs E,w.heap[k]? = some (.cells cs E (0,0))
def QgX (β:Nat)(r:V)(rv:Value→V)(v:V):Prop:=∀(φ:Nat→Option Blk) (I:Nat→Prop) (w:World) (y:Value),Rep φ I w y r→∃x,Dat (Pl I w β) w x v∧∀φ' I' w',Rep φ' I' w' y (rv x)
def V.new1 (β:Nat):V→Prop
 | .sln γ _ rs=>γ=β∧∀r∈rs,∀v∈r,v.sca=true
 | v=>v.sca=true
theorem Dat.new1 {β:Nat}{I:Nat→Prop}{w:World}{x:Value}{v:V}(d:Dat I w x v)(h:v.new1 β):Dat (Pl I w β) w x v.lo1:=by
 cases v with
 | sln γ z rs=>
  obtain⟨rfl,h2⟩:=h
  refine Dat.lo1 (β:=γ) ?_
  cases d with
  | sln0=>exact .sln0 _ _ _ _
  | sln _ b off len cap _ _ cs E hβ hI hl hc hr hcell hsz hd=>exact .sln γ b off len cap z rs cs E hβ ⟨hI,hβ,cs,E,hcell⟩ hl hc hr hcell hsz fun i r hi j v hj=>(hd i r hi j v hj).sca (h2 r (QQ hi) v (QQ hj))
 | _=>first | exact d.sca h | cases h
theorem Dat.new2 {β z:Nat}{rs:List (List V)}{I:Nat→Prop}{w:World}{x:Value}(d:Dat I w x (.sln β z rs))(h:∀r∈rs,∀v∈r,v.new1 β):Dat (Pl I w β) w x (.sl z (rs.map (List.map V.lo1))):=by
 cases d with
 | sln0=>exact .sl0 _ _ _
 | sln _ b off len cap _ _ cs E hβ hI hl hc hr hcell hsz hd=>
  refine .sl b off len cap z _ (fun j=>cs.getD (off+j) undef) ⟨hI,hβ,cs,E,hcell⟩ (by simpa using hl) hc (fun r hr'=>?_) (fun j hj=>?_) (fun i r hi j v hj=>?_)
  ·obtain⟨s,hs,rfl⟩:=QaE.1 hr';exact(hr s hs).lo
  ·have:off+j<cs.size:=by omega
   simp [World.cell?,hcell,Array.getD,this]
  rw [Q2]at hi
  obtain⟨s,hs,rfl⟩:=Q8.1 hi
  rw [Q2]at hj
  obtain⟨u,hu,rfl⟩:=Q8.1 hj
  exact(hd i s hs j u hu).new1 (h s (QQ hs) u (QQ hu))
theorem QgX.one {β z:Nat}{rs:List (List V)}(h:∀r∈rs,∀v∈r,v.new1 β):QgX β (.sln β z rs) V.lit (.sl z (rs.map (List.map V.lo1))):=fun φ I w y hy=>by
 cases hy with
 | dat d=>exact⟨y,d.new2 h,fun _ _ _=>.dat (.lit _)⟩
theorem QgX.two {β z:Nat}{rs:List (List V)}{e:V}(h:∀r∈rs,∀v∈r,v.new1 β)(he:e.sca=true):QgX β (.tup [.sln β z rs,e]) (fun x=>.tup [.lit x,e]) (.sl z (rs.map (List.map V.lo1))):=fun φ I w y hy=>by
 obtain⟨xs,rfl,hs,hr⟩:=hy.tup_inv
 have h0:0<xs.size:=by rw [hs];simp
 have h1:1<xs.size:=by rw [hs];simp
 have key:∀y,Rep φ I w y (.sln β z rs)→Dat (Pl I w β) w y (.sl z (rs.map (List.map V.lo1))):=fun y d=>by
  cases d with
  | dat d=>exact d.new2 h
 refine⟨xs[0],key _ (hr 0 _ _ (Qb1 h0) rfl),fun φ' I' w'=>.tup xs _ hs fun j y v hy hv=>?_⟩
 ·match j,hv with
  | 0,hv=>cases hv;rw [Qb1 h0]at hy;cases hy;exact .dat (.lit _)
  | 1,hv=>cases hv;exact(hr 1 y _ hy rfl).sca he
def Qmx (β:Nat):List V→Prop
 | []=>True
 | v::r=>v.new1 β∧Qmx β r
theorem Qmx.get {β:Nat}:∀{r:List V},Qmx β r→∀v∈r,v.new1 β
 | u::r,h,v,hv=>by
  rcases Qaa.1 hv with rfl | hv
  ·exact h.1
  exact h.2.get v hv
theorem QgX.map1 {α:Type}{β z:Nat}{f g:α→List V}{l:List α}(h:∀x,Qmx β (f x))(e:∀x,(f x).map V.lo1=g x):QgX β (.sln β z (l.map f)) V.lit (.sl z (l.map g)):=by
 have:=QgX.one (β:=β) (z:=z) (rs:=l.map f) fun r hr v hv=>by obtain⟨x,_,rfl⟩:=QaE.1 hr;exact(h x).get v hv
 rw [List.map_map]at this
 have e2:List.map V.lo1∘f=g:=funext e
 rwa [e2]at this
theorem QoQ {α:Type}{f g:α→List V}{l:List α}(e:∀x,(f x).map V.lo1=g x):(l.map f).map (List.map V.lo1)=l.map g:=by
 rw [List.map_map]
 have e2:List.map V.lo1∘f=g:=funext e
 rw [e2]
theorem Qns.thaw {f:FuncId}{d:Nat}{g:Bool}{vs us:List V}{rN:Nat→V}{rv:Value→V}{v:V}(hE:Qaj P C o σ f vs)(hd:o.dst=some d)(hn:Nat.ble (d+1) C.n=true)(hpg:C.pg P)(hv:QeO σ.hp g vs us)
  (hc:∀β,QW β P f us [] (Qp (rN β) [])) (hT:∀β,QgX β (rN β) rv v) (hf:look σ.hp d=none):Qns P C o σ fun x:Value=>(σ.set d (.nst x v)).put d (rv x):=by
 intro a w ⟨φ,hr⟩ next Q hnext
 refine⟨fun _ _=>trivial,?_⟩
 obtain⟨vals,hex,g1,g2⟩:=hE φ a w hr
 rw [Qio hex,Oper.uponIn_enter]
 refine⟨(fun h=>by cases h),Qjv ((hc w.heap.size _ _ w _ (QaX _) (Ins.of_viewsE hr g1 g2 hv) ((hr.glob hpg).mono fun _ h=>.inl h)).mono ?_)⟩
 rintro e w' ⟨y,v0,hs',φ',rfl,⟨rfl,_⟩,hout⟩
 obtain⟨x,hx,hrv⟩:=hT _ _ _ _ _ hout.rep
 rw [hd]
 have mem:∀k,k∈(List.range w'.heap.size).filter (fun k=>@decide (w.heap.size≤k∧∃cs E,w'.heap[k]? = some (.cells cs E (0,0))) (Classical.propDecidable _))↔k<w'.heap.size∧w.heap.size≤k∧∃cs E,w'.heap[k]? = some (.cells cs E (0,0)):=fun k=>by
  rw [List.mem_filter,QeM,@decide_eq_true_iff _ (Classical.propDecidable _)]
 generalize (List.range w'.heap.size).filter (fun k=>@decide (w.heap.size≤k∧∃cs E,w'.heap[k]? = some (.cells cs E (0,0))) (Classical.propDecidable _))=L at mem
 cases L with
 | cons b more=>
  have hB:∀k,(⟨b,0,0,more,0⟩:Blk).has k↔k<w'.heap.size∧w.heap.size≤k∧∃cs E,w'.heap[k]? = some (.cells cs E (0,0)):=fun k=>by
   rw [←mem,Qaa];exact Iff.rfl
  exact hnext x _ _ ⟨_,(hr.born (B:=⟨b,0,0,more,0⟩) (ob:=.nst x v) (C.slot hn) hf hout.os hout.tape hout.output hout.size (fun k hk=>hout.kept k hk fun _ _ h=>by simp at h) (fun k hk=>⟨((hB k).1 hk).2.1,((hB k).1 hk).1⟩)
   ⟨hx.mono fun k hk=>⟨(hB k).2 ⟨hk.1.1,hk.2⟩,rfl⟩,fun k hk=>((hB k).1 hk).2.2⟩).put (QM hn) (hrv _ _ _)⟩
 | nil=>
  have hnil:∀w2,Dat (fun _=>False) w2 x v:=fun w2=>hx.mono fun k hk=>by have:=(mem k).2 ⟨hk.1.1,hk.2⟩;cases this
  have hr':=hr.called hout
  have hN:=hr'.none_of_look hf
  have hset:RR C φ (σ.set d (.nst x v)) a w':=by
   refine⟨hr'.os,hr'.tape,hr'.output,hr'.size,hr'.kept,hr'.inj,fun o' B' hB'=>?_,hr'.lt,hr'.new,⟨hr'.stay.1,fun o' ob' B1 hge ho' hB1=>hr'.stay.2 o' ob' B1 hge (by have:=C.slot hn;rwa [σ.look_set_other _ (by omega)]at ho') hB1⟩,hr'.tmps,hr'.defers,hr'.frame,fun o' ob' ho'=>?_⟩
   ·by_cases e:o'=d
    ·subst e;exact⟨_,σ.look_set_same _ _⟩
    rw [σ.look_set_other _ (Ne.symm e)];exact hr'.dom o' B' hB'
   by_cases e:o'=d
   ·subst e;rw [σ.look_set_same]at ho';cases ho';exact .inr ⟨hN,hnil⟩
   rw [σ.look_set_other _ (Ne.symm e)]at ho';exact hr'.heap o' ob' ho'
  exact hnext x _ _ ⟨φ,hset.put (QM hn) (hrv _ _ _)⟩
def Qps (z:Nat)(D:Nat→Nat→Prop)(y:Value)(n:Nat):Prop:=∃a c,y=.slice a n c∧∀k,k<n→∃b off,a=some ⟨b,off,none⟩∧D b (off+k*z)
def Qnt (z q z':Nat)(D:Nat→Nat→Prop)(H:Nat→Nat→Value→Prop)(x:Value)(ls:List Nat):Prop:=
 ∃a c,x=.slice a ls.length c∧∀(i:Nat) n,ls[i]? = some n→∃b off y,a=some ⟨b,off,none⟩∧H b (off+(i*z+q)) y∧Qps z' D y n
theorem RR.setB {φ:Nat→Option Blk}{a:Act}{w:World}(h:RR C φ σ a w){b:Nat}{B:Blk}{ob ob':Ob}(hB:φ b=some B)(hb:look σ.hp b=some ob')(hrep:QaL φ (Imm C φ w) w B ob):RR C φ (σ.set b ob) a w:=by
 refine⟨h.os,h.tape,h.output,h.size,h.kept,h.inj,fun o B hB=>?_,h.lt,h.new,h.stay.set hb,h.tmps,h.defers,h.frame,fun o ob'' ho=>?_⟩
 ·by_cases e:o=b
  ·subst e;exact⟨_,σ.look_set_same _ _⟩
  rw [σ.look_set_other _ (Ne.symm e)];exact h.dom o B hB
 by_cases e:o=b
 ·subst e;rw [σ.look_set_same]at ho;cases ho;exact .inl ⟨B,hB,hrep⟩
 rw [σ.look_set_other _ (Ne.symm e)]at ho;exact h.heap _ _ ho
theorem RR.setN {φ:Nat→Option Blk}{a:Act}{w:World}(h:RR C φ σ a w){b:Nat}{ob ob':Ob}(hB:φ b=none)(hb:look σ.hp b=some ob')(hn:ob.Nil):RR C φ (σ.set b ob) a w:=by
 refine⟨h.os,h.tape,h.output,h.size,h.kept,h.inj,fun o B hB=>?_,h.lt,h.new,h.stay.set hb,h.tmps,h.defers,h.frame,fun o ob'' ho=>?_⟩
 ·by_cases e:o=b
  ·subst e;exact⟨_,σ.look_set_same _ _⟩
  rw [σ.look_set_other _ (Ne.symm e)];exact h.dom o B hB
 by_cases e:o=b
 ·subst e;rw [σ.look_set_same]at ho;cases ho;exact .inr ⟨hB,hn⟩
 rw [σ.look_set_other _ (Ne.symm e)]at ho;exact h.heap _ _ ho
theorem Qlx {w:World}{b i:Nat}{cs:Array Value}{E:TypeId}{y:Value}(h:w.heap[b]? = some (.cells cs E (0,0)))(hc:w.cell? ⟨b,i,none⟩=some y):cs[i]? = some y:=by
 simpa [World.cell?,h] using hc
theorem AK.scrib {d z q z':Nat}{x:Value}{rs:List (List V)}{ls:List Nat}{pt:Pt}(hb:look σ.hp d=some (.nst x (.sl z rs)))(hl:ls.length=rs.length)
  (hr:∀(i:Nat) r,rs[i]? = some r→∃us:List (List V),r[q]? = some (.sl z' us)∧ls[i]? = some us.length∧0<z'∧∀u∈us,∃n,u[0]? = some (.i .i64 n))
  (k:∀D H,Qnt z q z' D H x ls→AK P C Q pt ks (σ.set d (.scr D H))):AK P C Q pt ks σ:=by
 refine AK.weakenE (ι:={ p:(Nat→Nat→Prop)×(Nat→Nat→Value→Prop) // Qnt z q z' p.1 p.2 x ls }) (f:=fun p=>σ.set d (.scr p.1.1 p.1.2)) (fun a w ⟨φ,h⟩=>?_) fun p=>k _ _ p.2
 rcases h.heap d _ hb with⟨B,hB,hd,hpl⟩|⟨hB,hn⟩
 ·refine⟨⟨(fun b i=>B.has b∧∃cs E n,w.heap[b]? = some (.cells cs E (0,0))∧cs[i]? = some (.int .i64 n),fun b i y=>B.has b∧¬(B.has b∧∃cs E n,w.heap[b]? = some (.cells cs E (0,0))∧cs[i]? = some (.int .i64 n))∧w.cell? ⟨b,i,none⟩=some y),?_⟩,φ,h.setB hB hb ⟨fun b i h=>h,fun b i y h=>h⟩⟩
  show Qnt _ _ _ _ _ _ _
  cases hd with
  | sl0 a cap=>exact⟨a,cap,by rw [show ls.length=0 from hl],fun i n hi=>by rw [Qf9.1 hl]at hi;cases hi⟩
  | sl b off len cap _ _ c hI hlen hc hok hcell hd=>
   refine⟨some ⟨b,off,none⟩,cap,by rw [hl,hlen],fun i n hi=>?_⟩
   have hlt:i<rs.length:=by rw [←hl];exact(Qx.1 hi).1
   have hri:=QI hlt
   obtain⟨us,h1,h2,h3,h4⟩:=hr i _ hri
   rw [hi]at h2
   cases h2
   have hq:q<z:=by rw [←(hok _ (QQ hri)).1];exact(Qx.1 h1).1
   have hbig:i*z+z≤len*z:=by
    have:(i+1)*z≤len*z:=Qaz _ (by omega)
    rw [Qak]at this;omega
   have hcy:=hcell (i*z+q) (by omega)
   have hy:=hd i _ hri q _ h1
   refine⟨b,off,c (i*z+q),rfl,⟨hI,?_,hcy⟩,?_⟩
   ·rintro ⟨_,cs,E,n,e1,e2⟩
    have:=Qlx e1 hcy
    rw [e2]at this
    rw [←Option.some.inj this]at hy
    cases hy
   generalize c (i*z+q)=y at hy
   cases hy with
   | sl0 a cap=>exact⟨a,cap,rfl,fun k hk=>by cases hk⟩
   | sl b2 off2 len2 cap2 _ _ c2 hI2 hlen2 hc2 hok2 hcell2 hd2=>
    refine⟨some ⟨b2,off2,none⟩,cap2,by rw [hlen2],fun k hk=>⟨b2,off2,rfl,hI2,?_⟩⟩
    obtain⟨cs,E,e1⟩:=hpl b2 hI2
    have hu:=QI hk
    obtain⟨m,hm⟩:=h4 _ (QQ hu)
    have hb3:k*z'+z'≤len2*z':=by
     have:(k+1)*z'≤len2*z':=Qaz _ (by omega)
     rw [Qak]at this;omega
    have hv:=hd2 k _ hu 0 _ hm
    have hc4:=Qlx e1 (hcell2 (k*z') (by omega))
    rw [Nat.add_zero]at hv
    generalize c2 (k*z')=y2 at hv hc4
    cases hv
    exact⟨cs,E,m,e1,hc4⟩
 refine⟨⟨(fun _ _=>False,fun _ _ _=>False),?_⟩,φ,h.setN hB hb ⟨fun _ _ h=>h,fun _ _ _ h=>h⟩⟩
 have:=hn w
 cases this with
 | sl0 a cap=>exact⟨a,cap,by rw [show ls.length=0 from hl],fun i n hi=>by rw [Qf9.1 hl]at hi;cases hi⟩
 | sl _ _ _ _ _ _ _ hI=>exact hI.elim
theorem Stp.lenLit {T d e z by_ n c:Nat}{x:Operand}{a:Option Addr}(ho:o.op=.call { callee:=.builtin .len,args:=#[x],argTypes:=#[T] })(hd:o.dst=some d)(hn:Nat.ble (d+1) C.n=true)(hx:σ.opd x=some (.lit (.slice a n c)))(hT:QR P T=some (e,z,by_)):
  Stp P C o σ (σ.put d (.i .i64 n)):=by
 refine Stp.same hd hn fun φ a w hr=>?_
 obtain⟨hu,_⟩:=QaF hT
 refine⟨.int .i64 n,?_,.dat (.i _ _)⟩
 simp [execOp,ho,(hr.opd hx).lit_inv,resolve,invoke,builtin,Builtin.len_,run_underlying hu,goInt]
theorem Stp.idxLit {T d e z by_ b off n c:Nat}{x y:Operand}{k:IntKind}{j:Int}(ho:o.op=.indexAddr T x y)(hd:o.dst=some d)(hn:Nat.ble (d+1) C.n=true)(hx:σ.opd x=some (.lit (.slice (some ⟨b,off,none⟩) n c)))(hy:σ.opd y=some (.i k j))
  (hT:QR P T=some (e,z,by_)) (h0:0≤j) (h1:j<n):Stp P C o σ (σ.put d (.lit (.pointer (some ⟨b,off+j.toNat*z,none⟩)))):=by
 refine Stp.same hd hn fun φ a w hr=>?_
 refine⟨_,?_,.dat (.lit _)⟩
 simp only [execOp,ho,(hr.opd hx).lit_inv,(hr.opd hy).i_inv,Sem.run_bind,Qfl hT h0 h1,Result.andThen_ok,Sem.run_pure,Addr.add_lit]
theorem Stp.fieldLit {T f d b off k:Nat}{x:Operand}(ho:o.op=.fieldAddr T x f)(hd:o.dst=some d)(hn:Nat.ble (d+1) C.n=true)(hx:σ.opd x=some (.lit (.pointer (some ⟨b,off,none⟩))))(hf:Qdj P T f=some k):
  Stp P C o σ (σ.put d (.lit (.pointer (some ⟨b,off+k,none⟩)))):=by
 refine Stp.same hd hn fun φ a w hr=>?_
 refine⟨_,?_,.dat (.lit _)⟩
 simp only [execOp,ho,(hr.opd hx).lit_inv,Sem.run_bind,Qgd hf,Result.andThen_ok,Sem.run_pure,Addr.add_lit]
theorem Stp.loadScr {T d p b off:Nat}{x:Operand}{y:Value}{D:Nat→Nat→Prop}{H:Nat→Nat→Value→Prop}(ho:o.op=.load T x)(hd:o.dst=some d)(hn:Nat.ble (d+1) C.n=true)(hx:σ.opd x=some (.lit (.pointer (some ⟨b,off,none⟩))))
  (hg:QbR P T=some false) (hb:look σ.hp p=some (.scr D H)) (h:H b off y):Stp P C o σ (σ.put d (.lit y)):=by
 refine Stp.same hd hn fun φ a w hr=>?_
 refine⟨y,?_,.dat (.lit _)⟩
 have hc:w.cell? ⟨b,off,none⟩=some y:=by
  rcases hr.heap p _ hb with⟨B,_,hs⟩|⟨_,hn⟩
  ·exact(hs.2 b off y h).2.2
  exact absurd h (hn.2 _ _ _)
 simp only [execOp,ho,(hr.opd hx).lit_inv,Sem.run_bind,QcT hg hc,Result.andThen_ok,Sem.run_pure]
theorem Stp.storeScr {T p b off:Nat}{x y:Operand}{n:Int}{D:Nat→Nat→Prop}{H:Nat→Nat→Value→Prop}(ho:o.op=.store T x y)(hd:o.dst=none)(hx:σ.opd x=some (.lit (.pointer (some ⟨b,off,none⟩))))(hy:σ.opd y=some (.i .i64 n))
  (hs:QcB P T=some 1) (hb:look σ.hp p=some (.scr D H)) (h:D b off):Stp P C o σ (σ.set p (.scr D H)):=by
 refine Stp.skp fun φ a w hr=>?_
 rcases hr.heap p _ hb with⟨B,hB,hsc⟩|⟨_,hn⟩
 ·obtain⟨hBb,cs,E,m,e1,e2⟩:=hsc.1 b off h
  have hlt:off<cs.size:=(Qcn.1 e2).1
  have hv:a.eval y=.int .i64 n:=(hr.opd hy).i_inv
  have hrun:=Qgc (P:=P) (T:=T) (n:=1) (g:=b) (off:=off) (w:=w) (x:=.int .i64 n) hs (by rfl) e1 (by omega) (fun u hu=>by
   have:u=.int .i64 n:=by simpa [Value.cells] using hu
   subst this;rfl)
  generalize hrow:((cs.toList.take off++(Value.int .i64 n).cells.toList++cs.toList.drop (off+1)).toArray:Array Value)=row at hrun
  have hsz:row.size=cs.size:=by
   rw [←hrow];simp [Value.cells];omega
  have hget:∀i,row[i]? = if i=off then some (.int .i64 n)else cs[i]? := fun i=>by
   rw [←hrow]
   simp only [QcX,Value.cells]
   by_cases c1:i<off
   ·rw [QbK,Qay (by simp;omega),QaJ,if_pos c1,if_neg (by omega)];simp
   by_cases c2:i=off
   ·subst c2
    rw [if_pos rfl,Qay (by simp;omega),QaP (by simp;omega)]
    have:i-min i cs.size=0:=by omega
    simp [this]
   rw [if_neg c2,QaP (by simp;omega)]
   simp only [Qbj,QdN,QgM,Array.length_toList]
   simp
   congr 1
   omega
  have hsr:=setRow_heap w b cs row E _ e1
  refine⟨w.setRow b row,φ,?_,?_⟩
  ·simp only [execOp,ho,(hr.opd hx).lit_inv,hv,Sem.run_bind,hrun,Result.andThen_ok,Sem.run_pure]
  rw [hd]
  have hother:∀k,k≠b→(w.setRow b row).heap[k]? = w.heap[k]? := fun k hk=>setRow_other w b k _ hk
  have:=hr.change hB (B':=B) ⟨rfl,rfl,rfl,rfl⟩ (fun _=>rfl) (ob:=.scr D H) (w':=w.setRow b row) rfl rfl rfl (by simp) (fun k _ hne=>hother k fun e=>hne (e▸hBb)) (fun k hk=>⟨by simpa using (hr.lt p B k hB hk).1,.inl hk⟩)
   ⟨fun b' i' h'=>?_,fun b' i' y' h'=>?_⟩
  ·rwa [Qhd hB]at this
  ·obtain⟨g1,cs',E',m',g2,g3⟩:=hsc.1 b' i' h'
   refine⟨g1,?_⟩
   by_cases e:b'=b
   ·subst e
    rw [e1]at g2;cases g2
    refine⟨row,E,if i'=off then n else m',hsr,?_⟩
    rw [hget]
    split
    ·rfl
    exact g3
   exact⟨cs',E',m',(hother b' e).trans g2,g3⟩
  obtain⟨g1,g2,g3⟩:=hsc.2 b' i' y' h'
  refine⟨g1,g2,?_⟩
  by_cases e:b'=b
  ·subst e
   have:=Qlx e1 g3
   have hne:i'≠off:=fun e=>g2 (e▸h)
   have h5:=hget i'
   rw [if_neg hne,this]at h5
   simp [World.cell?,hsr,h5]
  exact(World.cell?_of_block (hother b' e)).trans g3
 exact absurd h (hn.1 _ _)
theorem Stp.bld0 {T d e z by_:Nat}{zs:List V}(ho:o.op=.buildSlice T 0 #[])(hd:o.dst=some d)(hn:Nat.ble (d+1) C.n=true)(hT:QR P T=some (e,z,by_))(hz:Qab P e=some zs):Stp P C o σ (σ.put d .e0):=by
 refine Stp.val fun φ a w hr=>?_
 obtain⟨hu,i,hi,rfl,_⟩:=QaF hT
 refine⟨.slice (some ⟨w.heap.size,0,none⟩) 0 0,w.alloc (.cells #[] e),φ,?_,?_⟩
 ·simp only [execOp,ho,Instr.buildSlice,Sem.run_bind,run_underlying hu,Result.andThen_ok,sizeOf,typeInfo,run_program,hi,Sem.run_pure,Qfk,if_true]
  simp [newRow,Instr.fill]
  rw [Qks,Qkr]
 rw [hd]
 exact(hr.step (w':=w.alloc (.cells #[] e)) rfl rfl rfl (by simp) fun k hk=>heap_alloc_old w _ hk).put (QM hn) (.dat (.e0 _))
theorem Stp.appE0 {T U d e e' z z' by_ by':Nat}{x y:Operand}{us:List (List V)}{zs:List V}(ho:o.op=.call { callee:=.builtin .append,args:=#[x,y],argTypes:=#[T,U] })(hd:o.dst=some d)(hn:Nat.ble (d+1) C.n=true)(hx:σ.opd x=some .e0)
  (hT:QR P T=some (e,z,by_)) (hU:QR P U=some (e',z',by')) (hz:Qab P e=some zs) (hzl:zs.length=z) (hz0:z≠0) (hb1:1≤by_) (hb2:by_≤32768) (hsm:decide (us.length≤4294967296)=true) (hy:σ.opd y=some (.sl z us)):Stp P C o σ (σ.put d (.sl z us)):=by
 refine Stp.val fun φ a w hr=>?_
 obtain⟨hu,i,hi,rfl,rfl⟩:=QaF hT
 obtain⟨hu',_⟩:=QaF hU
 obtain⟨i',zv,hi',hz',hmap⟩:=Qdg hz
 rw [hi]at hi';cases hi'
 have hsm:=Qal hsm
 have hzs:zv.cells.size=i.size:=by rw [←hzl,←hmap];simp
 have hpos:0<i.size:=Nat.pos_of_ne_zero hz0
 have hbytes:us.length*i.bytes≤140737488355328:=QaQ (Nat.mul_le_mul hsm hb2) (by decide)
 have hexec:∀base n c v w',a.eval x=.slice base n c→(Builtin.append_ #[T,T] o.type #[.slice base n c,a.eval y]).run P w=.ok v w'→(execOp a.eval o).run P w=.ok (.value v) w':=by
  intro base n c v w' h1 h
  simp only [execOp,ho,resolve,invoke,builtin,Sem.run_bind,Sem.run_pure,Result.andThen_ok,List.map_toArray,QbL,List.map_nil,h1,Qjz hu hu' hi,h]
 obtain⟨q,hq⟩:∃q,a.eval x=.slice q 0 0:=by
  have:=hr.opd hx
  generalize a.eval x=x0 at this
  cases this with | dat d=>cases d with | e0 q=>exact⟨q,rfl⟩
 rcases(hr.opd hy).source_sl with⟨p,c,hp,h0⟩|⟨p,c,news,hyv,hnews,hcells,hone,hokU,hrowU⟩
 ·subst h0
  exact⟨.slice q 0 0,w,φ,hexec _ _ _ _ _ hq (by rw [hp];exact QdQ hu hi q p 0 0 c (QaX _)),by rw [hd];exact hr.put (QM hn) (.dat (.sl0 _ _ _))⟩
 by_cases h0:us=[]
 ·subst h0
  exact⟨.slice q 0 0,w,φ,hexec _ _ _ _ _ hq (by rw [hyv];exact QdQ hu hi q (some p) 0 0 c (QaX _)),by rw [hd];exact hr.put (QM hn) (.dat (.sl0 _ _ _))⟩
 have hpos2:0<us.length:=List.length_pos_iff.2 h0
 have run:∃cap,us.length≤cap∧(Builtin.append_ #[T,T] o.type #[.slice q 0 0,a.eval y]).run P w=.ok (.slice (some ⟨w.heap.size,0,none⟩) us.length cap) (w.drew.alloc (.cells (news.toArray++Builtin.zeroCells zv.cells (cap-us.length)) e)):=by
  cases q with
  | none=>
   refine⟨grownCap w us.length 0 e,grownCap_ge w us.length 0 e,?_⟩
   rw [hyv]
   exact run_append_nil (P:=P) w T o.type e i zv hu hi hz' p us.length c news hnews hcells hpos2 (by omega) (by omega)
  | some q=>
   refine⟨grownCap w (0+us.length) 0 e,by have:=grownCap_ge w (0+us.length) 0 e;omega,?_⟩
   rw [hyv]
   have:=run_append_grow (P:=P) w T o.type e i zv hu hi hz' q 0 0 [] (by simp) (fun j v hj=>by simp at hj) p us.length c news hnews hcells (by omega) (by omega) (growslice_fits (by omega) (by simpa using hbytes))
   simpa using this
 obtain⟨cap,hge,hrun⟩:=run
 refine⟨_,_,φ,hexec _ _ _ _ _ hq hrun,?_⟩
 rw [hd]
 have hold:∀k,k<w.heap.size→(w.drew.alloc (.cells (news.toArray++Builtin.zeroCells zv.cells (cap-us.length)) e)).heap[k]? = w.heap[k]? := fun k hk=>heap_alloc_old w.drew _ hk
 have hst:=hr.step (w':=w.drew.alloc (.cells (news.toArray++Builtin.zeroCells zv.cells (cap-us.length)) e)) rfl rfl rfl (by simp) hold
 refine hst.put (QM hn) (.dat (.sl w.heap.size 0 us.length cap i.size us (fun j=>news.getD j undef) ⟨by simp,fun h=>absurd hr.size (by omega),fun o B hB hk=>absurd (hr.lt o B _ hB hk).1 (Nat.lt_irrefl _)⟩ rfl hge hokU (fun j hj=>?_) (fun m r hm j v hj=>?_)))
 ·have hlt:j<news.length:=by omega
  have hh:=heap_alloc_new w.drew (.cells (news.toArray++Builtin.zeroCells zv.cells (cap-us.length)) e)
  have hh:(w.drew.alloc (.cells (news.toArray++Builtin.zeroCells zv.cells (cap-us.length)) e)).heap[w.heap.size]? = _:=hh
  simp only [World.cell?,hh,QcY]
  rw [Qkq (by simpa using hlt)]
  simp [Qfe,hlt]
 obtain⟨u,hu1,hu2⟩:=hrowU m r hm j v hj
 rw [Qfe,hu1]
 exact hu2.mono fun k hk=>⟨⟨QcQ hk.1 (by simp),hk.2⟩,hold k hk.1⟩
end
end Go.Vm
namespace Go.Vm
open Go Go.RowKit
def QL (A:Nat→Nat)(p:Option Nat):V:=.lit (.pointer (p.map fun k=>⟨A k,0,none⟩))
def QA (A:Nat→Nat)(p:Option Nat):List V:=[QL A p]
def QaS (A:Nat→Nat)(off k:Nat):V:=.lit (.pointer (some ⟨A k,off,none⟩))
section
variable {P:Program}{C:Ctx}{σ:St}{o:Oper}{A:Nat→Nat}
theorem Stp.nilCheckP {d k:Nat}{p:Option Nat}{x:Operand}(ho:o.op=.nilCheck x)(hd:o.dst=some d)(hn:Nat.ble (d+1) C.n=true)(hx:σ.opd x=some (QL A p))(hp:p=some k):Stp P C o σ (σ.put d (QaS A 0 k)):=by
 subst hp
 refine Stp.same hd hn fun φ a w hr=>⟨a.eval x,?_,hr.opd hx⟩
 have:=(hr.opd hx).lit_inv
 simp [execOp,ho,this]
theorem Stp.fieldP {T f d k off n m:Nat}{x:Operand}(ho:o.op=.fieldAddr T x f)(hd:o.dst=some d)(hn:Nat.ble (d+1) C.n=true)(hx:σ.opd x=some (QaS A off k))(hf:Qdj P T f=some n)(hm:off+n=m):Stp P C o σ (σ.put d (QaS A m k)):=by
 refine Stp.same hd hn fun φ a w hr=>?_
 subst hm
 have he:=(hr.opd hx).lit_inv
 refine⟨.pointer (some ⟨A k,off+n,none⟩),?_,.dat (.lit _)⟩
 simp only [execOp,ho,he,Sem.run_bind,Qgd hf,Result.andThen_ok,Sem.run_pure,Addr.add_lit]
theorem Stp.loadP {T d b k off z:Nat}{x:Operand}{rs:List (List V)}{r:List V}{v:V}(ho:o.op=.load T x)(hd:o.dst=some d)(hn:Nat.ble (d+1) C.n=true)(hx:σ.opd x=some (QaS A off k))
  (hb:look σ.hp b=some (.tbl A z rs)) (hg:QbR P T=some false) (hr':rs[k]? = some r) (hv:r[off]? = some v):Stp P C o σ (σ.put d v):=by
 refine Stp.same hd hn fun φ a w hr=>?_
 have he:=(hr.opd hx).lit_inv
 rcases hr.heap b _ hb with⟨B,hB,h1,h2,h3,h4⟩|⟨_,h⟩
 ·obtain⟨cs,E,e1,e2,e3⟩:=h4 k r hr'
  obtain⟨y,hy,hD⟩:=e3 off v hv
  refine⟨y,?_,.dat hD⟩
  have hc:w.cell? ⟨A k,off,none⟩=some y:=by simp [World.cell?,e1,hy]
  simp only [execOp,ho,he,Sem.run_bind,QcT hg hc,Result.andThen_ok,Sem.run_pure]
 subst h;simp at hr'
theorem Stp.storeP {T b k off z:Nat}{x y:Operand}{rs rs':List (List V)}{r:List V}{v:V}(ho:o.op=.store T x y)(hd:o.dst=none)(hx:σ.opd x=some (QaS A off k))
  (hb:look σ.hp b=some (.tbl A z rs)) (hr':rs[k]? = some r) (hlt:Nat.ble (off+1) z=true) (hy:σ.opd y=some v) (h1:v.one=true) (hdat:v.dat=true) (hs:QcB P T=some 1) (he:rs.set k (r.set off v)=rs'):Stp P C o σ (σ.set b (.tbl A z rs')):=by
 refine Stp.skp fun φ a w hr=>?_
 subst he
 have hev:=(hr.opd hx).lit_inv
 have hv:=hr.opd hy
 rcases hr.heap b _ hb with⟨B,hB,h⟩|⟨_,h⟩
 ·have hrep:=h
  obtain⟨a1,a2,a3,a4⟩:=h
  obtain⟨cs,E,e1,e2,e3⟩:=a4 k r hr'
  have hk:k<rs.length:=(Qx.1 hr').1
  have hoff:off<cs.size:=by rw [e2];exact QaK hlt
  have hvc:v.cells=[v]:=by cases v<;>first | rfl | simp [V.one]at h1
  have hrl:r.length=z:=(a3 r (QQ hr')).1
  have hc1:=(hv.oneCell h1).1
  have hrun:=Qgc (P:=P) (T:=T) (off:=off) (x:=a.eval y) hs (by rw [hc1];rfl) e1 (by omega) (hv.cells_one (.inl h1) (by rw [hvc];simp [h1]))
  rw [hc1]at hrun
  have hnl:(cs.toList.take off++[a.eval y]++cs.toList.drop (off+1)).toArray.size=z:=by simp;omega
  have hcell:∀j:Nat,(cs.toList.take off++[a.eval y]++cs.toList.drop (off+1)).toArray[j]? = if j=off then some (a.eval y)else cs[j]? := fun j=>by
   rw [QcX]
   by_cases hj:j<off
   ·rw [QbK,Qay (by simp;omega),QaJ,if_pos hj,if_neg (by omega)];simp
   by_cases hj2:j=off
   ·subst hj2
    rw [QbK,QaP (by simp;omega),if_pos rfl]
    have:j-(List.take j cs.toList).length=0:=by rw [QgM];simp;omega
    rw [this];rfl
   rw [QaP (by simp;omega),Qbj,if_neg hj2]
   simp only [QdN,QgM,Qf8,List.length_nil]
   rw [show off+1+(j-(min off cs.toList.length+(0+1)))=j by simp;omega];simp
  generalize hnc:(cs.toList.take off++[a.eval y]++cs.toList.drop (off+1)).toArray=nc at hnl hcell
  have hrun':(Instr.storeAt T (.pointer (some ⟨A k,off,none⟩)) (a.eval y)).run P w=.ok () (w.setRow (A k) nc):=by rw [←hnc];exact hrun
  have hhas:B.has (A k):=(hrep.has _).2 ⟨k,hk,rfl⟩
  have hinj:∀i,i<rs.length→A i=A k→i=k:=fun i hi e=>by
   have hnd:=a2;rw [a1]at hnd
   exact(List.getElem?_inj (by simpa using hi) hnd).1 (by rw [Q2,Q2,List.getElem?_range hi,List.getElem?_range hk];simp [e])
  have hI:∀j,Imm C φ w j→Imm C φ (w.setRow (A k) nc) j∧(w.setRow (A k) nc).heap[j]? = w.heap[j]? := fun j hj=>⟨⟨by simpa using hj.1,hj.2⟩,setRow_other w _ j _ fun e=>hj.2.2 b B hB (e▸hhas)⟩
  refine⟨w.setRow (A k) nc,φ,?_,?_⟩
  ·simp only [execOp,ho,hev,Sem.run_bind,hrun',Result.andThen_ok,Sem.run_pure]
  rw [hd]
  have:=hr.change hB (B':=B) ⟨rfl,rfl,rfl,rfl⟩ (fun _=>rfl) (ob:=.tbl A z (rs.set k (r.set off v))) (w':=w.setRow (A k) nc) rfl rfl rfl (by simp) (fun j _ hne=>setRow_other w _ j _ fun e=>hne (e▸hhas))
   (fun j hj=>⟨by simpa using (hr.lt b B j hB hj).1,.inl hj⟩) (by
    rw [Qhd hB]
    refine⟨by rw [QiJ];exact a1,a2,fun q hq=>?_,fun i q hi=>?_⟩
    ·rcases Qj3 hq with hq | rfl
     ·exact a3 q hq
     obtain⟨b1,b2⟩:=a3 r (QQ hr')
     refine⟨by rw [QiJ];exact b1,fun u hu=>?_⟩
     rcases Qj3 hu with hu | rfl
     ·exact b2 u hu
     exact h1
    by_cases e:i=k
    ·subst e
     rw [Qj1 hk]at hi;cases hi
     refine⟨nc,E,setRow_heap w _ cs _ E _ e1,hnl,fun j u hu=>?_⟩
     by_cases ej:j=off
     ·subst ej
      rw [Qj1 (by omega)]at hu;cases hu
      exact⟨a.eval y,by rw [hcell,if_pos rfl],(hv.toDat hdat).mono hI⟩
     rw [Qj0 (Ne.symm ej)]at hu
     obtain⟨x',hx',hD⟩:=e3 j u hu
     exact⟨x',by rw [hcell,if_neg ej];exact hx',hD.mono hI⟩
    rw [Qj0 (Ne.symm e)]at hi
    obtain⟨cs2,E2,g1,g2,g3⟩:=a4 i q hi
    have hi':i<rs.length:=(Qx.1 hi).1
    exact⟨cs2,E2,(setRow_other w _ _ _ fun e'=>e (hinj i hi' e')).trans g1,g2,fun j u hu=>let ⟨x',hx',hD⟩:=g3 j u hu;⟨x',hx',hD.mono hI⟩⟩)
  rwa [Qhd hB]at this
 subst h;simp at hr'
theorem QoZ (t e:TypeId)(p:Option Addr)(w:World)(h:P.underlying t=some (.pointer e)):(Op.equal t (.pointer p) (.pointer none)).run P w=.ok p.isNone w:=by
 show(Op.equalIn (9999+1) t (.pointer p) (.pointer none)).run P w=_
 rw [Op.equalIn]
 cases p<;>simp only [Sem.run_bind,run_underlying h,Result.andThen_ok,Sem.run_pure]<;>rfl
theorem Stp.neqNilP {T U d e:Nat}{x y:Operand}{p:Option Nat}(ho:o.op=.binOp .neq T x y U)(hd:o.dst=some d)(hn:Nat.ble (d+1) C.n=true)(hx:σ.opd x=some (QL A p))(hy:σ.opd y=some (.lit (.pointer none)))(hT:P.underlying T=some (.pointer e)):Stp P C o σ (σ.put d (.b p.isSome)):=by
 refine Stp.same hd hn fun φ a w hr=>?_
 have hxv:=(hr.opd hx).lit_inv
 have hyv:=(hr.opd hy).lit_inv
 refine⟨.bool p.isSome,?_,.dat (.b _)⟩
 simp only [execOp,ho,hxv,hyv]
 simp [eqGuard,binOp,QoZ _ _ _ w hT]
def Qc3 {κ α:Type}[DecidableEq κ](l:List (κ×α))(k:κ):List (κ×α):=l.filter fun p=>!decide (p.1=k)
theorem Stp.delete {T U b K E:Nat}{x y:Operand}{κ α:Type}[DecidableEq κ]{e:κ→V}{val:κ→Value}{f:α→V}{l:List (κ×α)}{k:κ}(ho:o.op=.call { callee:=.builtin .delete,args:=#[x,y],argTypes:=#[T,U] })(hd:o.dst=none)
  (hx:σ.opd x=some (.map b)) (hb:look σ.hp b=some (.map (QF e f l))) (hy:σ.opd y=some (e k)) (hT:Qib P T=some (K,E)) (hk:QeP P K e val):
  Stp P C o σ (σ.set b (.map (QF e f (Qc3 l k)))):=by
 refine Stp.val fun φ a w hr=>?_
 obtain⟨B,hB,he⟩:=(hr.opd hx).map_inv
 have hyv:a.eval y=val k:=hk.inv _ _ _ _ ((hr.opd hy).toDat (hk.edat k))
 obtain⟨D,hD,_⟩:=hk.d
 have hrep:=hr.block hB hb
 obtain⟨es,clock,h1,h2,h3,h4,h5,h6⟩:=Qby.find hk hD hrep k
 obtain⟨es',clock',h1',_,_,_,r5,r6⟩:=hrep
 rw [h1]at h1';cases h1'
 have hlt:B.b<w.heap.size:=(hr.lt b B _ hB B.self).1
 have write:∀(es2:Array MapEntry) (l2:List (κ×α)),MapKept.Stamped es2 clock→(l2.map Prod.fst).Nodup→es2.size=l2.length→
   (∀x∈es2.toList,∃p∈l2,x.key=val p.1∧Dat (Imm C φ w) w x.val (f p.2))→(∀p∈l2,∃x∈es2.toList,x.key=val p.1∧Dat (Imm C φ w) w x.val (f p.2))→
   RR C φ (σ.set b (.map (QF e f l2))) a { w with heap:=w.heap.setIfInBounds B.b (.map es2 clock) }:=by
  intro es2 l2 a1 a2 a3 a4 a5
  have hI:∀k,Imm C φ w k→Imm C φ { w with heap:=w.heap.setIfInBounds B.b (.map es2 clock) } k∧(w.heap.setIfInBounds B.b (.map es2 clock))[k]? = w.heap[k]? := fun k hk'=>
   ⟨⟨by simpa using hk'.1,hk'.2⟩,Qbz _ fun e=>hk'.2.2 b B hB (.inl e)⟩
  refine hr.write hB rfl rfl rfl (by simp) (fun k hne=>Qbz _ hne) ⟨es2,clock,by simp [hlt],a1,(QiZ hk.einj).2 a2,by rw [a3,QF,Qdi],fun x hx=>?_,fun p hp=>?_⟩
  ·obtain⟨p,hp,e1,e2⟩:=a4 x hx
   exact⟨_,QaE.2 ⟨p,hp,rfl⟩,by rw [e1];exact hk.dat _ _ _,e2.mono hI⟩
  obtain⟨q,hq,rfl⟩:=QaE.1 hp
  obtain⟨x,hx,e1,e2⟩:=a5 q hq
  exact⟨x,hx,by rw [e1];exact hk.dat _ _ _,e2.mono hI⟩
 have old1:∀x∈es.toList,∃p∈l,x.key=val p.1∧Dat (Imm C φ w) w x.val (f p.2):=fun x hx=>by
  obtain⟨p,hp,a1,a2⟩:=r5 x hx
  obtain⟨q,hq,rfl⟩:=QaE.1 hp
  exact⟨q,hq,hk.inv _ _ _ _ a1,a2⟩
 have old2:∀p∈l,∃x∈es.toList,x.key=val p.1∧Dat (Imm C φ w) w x.val (f p.2):=fun p hp=>by
  obtain⟨x,hx,a1,a2⟩:=r6 _ (QaE.2 ⟨p,hp,rfl⟩)
  exact⟨x,hx,hk.inv _ _ _ _ a1,a2⟩
 have hnd:((Qc3 l k).map Prod.fst).Nodup:=(List.filter_sublist.map _).nodup h3
 rcases h6 with⟨g1,g2,g3⟩|⟨j,xx,v0,g1,g2,g3,g4,g5⟩
 ·refine⟨.tuple #[],{ w with heap:=w.heap.setIfInBounds B.b (.map es clock) },φ,?_,?_⟩
  ·simp [execOp,ho,he,hyv,resolve,invoke,builtin,Builtin.delete_,run_underlying (QeU hT),MapKept.run_getObj_map h1,MapKept.run_checkKey hD h5,MapKept.run_findKey hD g2,MapKept.run_setObj_map _ h1]
  rw [hd]
  have hml:Qc3 l k=l:=List.filter_eq_self.2 fun p hp=>by
   have:p.1≠k:=fun e'=>by rw [show Qaq l k=some p.2 from Qia h3 (by rw [←e'];exact hp)]at g1;cases g1
   simp [this]
  rw [hml]
  exact write es l h2 h3 h4 old1 old2
 have hjlt:j<es.size:=(Qcn.1 g3).1
 have hlist:(es.eraseIdxIfInBounds j).toList=es.toList.eraseIdx j:=by
  unfold Array.eraseIdxIfInBounds
  rw [dif_pos hjlt]
  simp
 have hkeyj:∀i x,es[i]? = some x→x.key=val k→i=j:=fun i x hx hxk=>by
  have hnd:=h2.2.2
  have i1:(es.toList.map (·.key))[i]? = some (val k):=by simp [Q2,hx,hxk]
  have i2:(es.toList.map (·.key))[j]? = some (val k):=by simp [Q2,g3,g4]
  exact(List.getElem?_inj (by simpa using (Qcn.1 hx).1) hnd).1 (i1.trans i2.symm)
 have hmem:∀x,x∈(es.eraseIdxIfInBounds j).toList↔x∈es.toList∧x.key≠val k:=fun x=>by
  rw [hlist,List.mem_eraseIdx_iff_getElem?]
  constructor
  ·rintro ⟨i,hne,hi⟩
   have hi':es[i]? = some x:=by simpa using hi
   exact⟨QQ hi,fun e'=>hne (hkeyj i x hi' e')⟩
  rintro ⟨hx,hne⟩
  obtain⟨i,hi⟩:=Qfg.1 hx
  refine⟨i,fun e'=>?_,hi⟩
  subst e'
  rw [show es.toList[i]? = some xx by simpa using g3]at hi;cases hi
  exact hne g4
 have hdm:∀p,p∈Qc3 l k↔p∈l∧p.1≠k:=fun p=>by simp [Qc3,List.mem_filter]
 refine⟨.tuple #[],{ w with heap:=w.heap.setIfInBounds B.b (.map (es.eraseIdxIfInBounds j) clock) },φ,?_,?_⟩
 ·simp [execOp,ho,he,hyv,resolve,invoke,builtin,Builtin.delete_,run_underlying (QeU hT),MapKept.run_getObj_map h1,MapKept.run_checkKey hD h5,MapKept.run_findKey hD g2,MapKept.run_setObj_map _ h1]
 rw [hd]
 refine write _ _ (MapKept.stamped_erase h2 j) hnd ?_ (fun x hx=>?_) fun p hp=>?_
 ·have e1:(es.eraseIdxIfInBounds j).size=es.size-1:=by
   have:=congrArg List.length hlist
   rw [List.length_eraseIdx,if_pos (by simpa using hjlt)]at this
   simpa only [Array.length_toList] using this
  have e2:(Qc3 l k).length+1=l.length:=by
   have hm:=QiY g1
   have:∀(l:List (κ×α)),(l.map Prod.fst).Nodup→(k,v0)∈l→(Qc3 l k).length+1=l.length:=by
    intro l
    induction l with
    | nil=>intro _ h;cases h
    | cons p l ih=>
     intro hn hm
     rw [QbL,Qfh]at hn
     rcases Qaa.1 hm with rfl | hm
     ·have:Qc3 ((k,v0)::l) k=l:=by
       unfold Qc3
       rw [QdM,if_neg (by simp)]
       exact List.filter_eq_self.2 fun q hq=>by
        have:q.1≠k:=fun e'=>hn.1 (QaE.2 ⟨q,hq,e'⟩)
        simp [this]
      rw [this];rfl
     have hne:p.1≠k:=fun e'=>hn.1 (QaE.2 ⟨_,hm,e'.symm⟩)
     have:Qc3 (p::l) k=p::Qc3 l k:=by unfold Qc3;rw [QdM,if_pos (by simp [hne])]
     rw [this,Qf8,ih hn.2 hm,Qf8]
   exact this l h3 hm
  rw [e1,h4];omega
 ·obtain⟨hx1,hx2⟩:=(hmem x).1 hx
  obtain⟨p,hp,a1,a2⟩:=old1 x hx1
  exact⟨p,(hdm p).2 ⟨hp,fun e'=>hx2 (by rw [a1,e'])⟩,a1,a2⟩
 obtain⟨hp1,hp2⟩:=(hdm p).1 hp
 obtain⟨x,hx,a1,a2⟩:=old2 p hp1
 exact⟨x,(hmem x).2 ⟨hx,fun e'=>hp2 (hk.inj _ _ (by rw [←a1,e']))⟩,a1,a2⟩
theorem RR.grow {φ:Nat→Option Blk}{a:Act}{w:World}(hr:RR C φ σ a w){b z T:Nat}{rs:List (List V)}{cs:List V}{ys:Array Value}(hb:look σ.hp b=some (.tbl A z rs))(hlt:b<607)(hz:cs.length=z)(h1:∀v∈cs,v.one=true)
  (hs:ys.size=z) (hc:∀(j:Nat) x v,ys[j]? = some x→cs[j]? = some v→Dat (Imm C φ w) w x v):
  ∃φ',RR C φ' ((σ.kill b).set b (.tbl (fun i=>if i=rs.length then w.heap.size else A i) z (rs++[cs]))) a (w.alloc (.cells ys T)):=by
 generalize hA':(fun i=>if i=rs.length then w.heap.size else A i)=A'
 have hnew:A' rs.length=w.heap.size:=by rw [←hA'];simp
 have hold:∀i,i<rs.length→A' i=A i:=fun i hi=>by rw [←hA'];simp [Nat.ne_of_lt hi]
 have hrng:(List.range (rs++[cs]).length).map A'=(List.range rs.length).map A++[w.heap.size]:=by
  rw [QdN,Qf8,List.length_nil,List.range_succ,QhG,QbL,List.map_nil,hnew]
  congr 1
  exact QgN fun i hi=>hold i (QeM.1 hi)
 have hok:(∀r∈rs,Qb8 z r)→∀r∈rs++[cs],Qb8 z r:=fun h r hr=>by
  rcases Qff.1 hr with hr | hr
  ·exact h r hr
  rw [Qj4.1 hr];exact⟨hz,h1⟩
 have row:∀{I:Nat→Prop},(∀k,Imm C φ w k→I k)→∃cs2 E,(w.alloc (.cells ys T)).heap[w.heap.size]? = some (.cells cs2 E (0,0))∧cs2.size=z∧∀(j:Nat) v,cs[j]? = some v→∃x,cs2[j]? = some x∧Dat I (w.alloc (.cells ys T)) x v:=fun {I} hI=>by
  refine⟨ys,T,heap_alloc_new w _,hs,fun j v hv=>?_⟩
  have hj:j<ys.size:=by rw [hs,←hz];exact(Qx.1 hv).1
  exact⟨ys[j],Qb1 hj,(hc j _ v (Qb1 hj) hv).mono fun k hk=>⟨hI k hk,Below.heap_alloc w _ k hk.1⟩⟩
 rcases hr.heap b _ hb with⟨B,hB,hrep⟩|⟨hn,h⟩
 ·let B':Blk:=⟨B.b,B.cap,B.z,B.more++[w.heap.size],B.off⟩
  have hhas:∀k,B'.has k↔B.has k∨k=w.heap.size:=fun k=>by simp [Blk.has,B',or_assoc]
  have hI0:∀k,Imm C φ w k→Imm C (ext φ b B') (w.alloc (.cells ys T)) k:=fun k hk=>⟨by have:=hk.1;simp;omega,hk.2.1,fun o B1 h1=>by
   by_cases e:o=b
   ·subst e;rw [QG]at h1;cases h1
    rw [hhas];rintro (h2 | h2)
    ·exact hk.2.2 _ B hB h2
    have:=hk.1;omega
   rw [Qy _ e]at h1;exact hk.2.2 o B1 h1⟩
  have:=hr.change hB (B':=B') ⟨rfl,rfl,rfl,rfl⟩ (fun h=>absurd hlt (by omega)) (ob:=.tbl A' z (rs++[cs])) (w':=w.alloc (.cells ys T)) rfl rfl rfl (by simp) (fun k hk _=>Below.heap_alloc w _ k hk)
   (fun k hk=>by
    rcases(hhas k).1 hk with h2 | h2
    ·exact⟨by have:=(hr.lt b B k hB h2).1;simp;omega,.inl h2⟩
    ·exact⟨by simp;omega,.inr (by omega)⟩) (by
    refine⟨by rw [hrng,←hrep.1];rfl,?_,hok hrep.2.2.1,fun i q hi=>?_⟩
    ·show((B.b::B.more)++[w.heap.size]).Nodup
     rw [List.nodup_append]
     refine⟨hrep.2.1,by simp,fun x hx y hy=>?_⟩
     rw [Qj4.1 hy]
     have:=(hr.lt b B x hB (by unfold Blk.has;exact Qaa.1 hx)).1
     omega
    rcases Qbv i rs.length with hlt' | hge
    ·rw [Qay hlt']at hi
     obtain⟨cs2,E,g1,g2,g3⟩:=hrep.2.2.2 i q hi
     have hAi:A i<w.heap.size:=(hr.lt b B _ hB ((hrep.has _).2 ⟨i,hlt',rfl⟩)).1
     exact⟨cs2,E,by rw [hold i hlt',Below.heap_alloc w _ _ hAi];exact g1,g2,fun j u hu=>let ⟨x',hx',hD⟩:=g3 j u hu;⟨x',hx',hD.mono fun k hk=>⟨hI0 k hk,Below.heap_alloc w _ k hk.1⟩⟩⟩
    have hi0:i=rs.length:=by have:=(Qx.1 hi).1;simp at this;omega
    subst hi0
    rw [QaP (QaX _),Nat.sub_self]at hi
    simp at hi;subst hi
    rw [hnew];exact row hI0)
  have h2:=this.reset b (.tbl A' z (rs++[cs])) ⟨_,St.look_set_same _ _ _⟩ (.inl ⟨B',QG _ _ _,this.block (QG _ _ _) (St.look_set_same _ _ _)⟩)
  rw [St.set_kill]at h2
  exact⟨_,h2⟩
 replace h:rs=[]:=h
 subst h
 have hk:=hr.kill b
 have hnone:look (σ.kill b).hp b=none:=by
  cases h:look (σ.kill b).hp b with
  | none=>rfl
  | some ob=>exact absurd rfl (Qbi _ _ _ h).1
 have hdel:del φ b=φ:=by
  funext k
  by_cases e:k=b
  ·subst e;rw [QiT,hn]
  rw [QcR e]
 have hI1:=hk.imm_alloc b 0 0 (.cells ys T) (QiT _ _)
 refine⟨_,hk.alloc (cap:=0) (z:=0) hnone hlt (ob:=.tbl A' z ([]++[cs])) (obj:=.cells ys T) ⟨?_,by simp,hok (by simp),fun i q hi=>?_⟩⟩
 ·rw [hrng];rfl
 have hi0:i=0:=by have:=(Qx.1 hi).1;simp at this;omega
 subst hi0
 simp at hi;subst hi
 have:A' 0=w.heap.size:=hnew
 rw [this]
 exact row fun k hk'=>(hI1 k (by rw [hdel];exact hk')).1
theorem AK.boxP {Q:Exit→St→Prop}{ops:Array Oper}{rest:List Oper}{ks:List Fr}{T d b z:Nat}{x:Operand}{n:Nat}{cs:List V}{rs rsN:List (List V)}(hg:o.guard=none)(ho:o.op=.box T x)(hd:o.dst=some d)(hn:Nat.ble (d+1) C.n=true)(hx:σ.opd x=some (.agg cs))
  (hb:look σ.hp b=some (.tbl A z rs)) (hlt:Nat.ble 607 b=false) (hz:Nat.beq cs.length z=true) (h1:cs.all V.one=true) (h2:cs.all V.dat=true) (hrn:rs.length=n) (hr2:rs++[cs]=rsN)
  (k:∀A':Nat→Nat,(∀i,i<n→A' i=A i)→AK P C Q (.o ops rest) ks (((σ.kill b).set b (.tbl A' z rsN)).put d (QL A' (some n)))):AK P C Q (.o ops (o::rest)) ks σ:=by
 subst hrn hr2
 intro a w ⟨φ,hr⟩
 simp only [wpListIn,Region.wanted,hg,if_true]
 refine⟨fun _ _=>trivial,?_⟩
 have hv:=hr.opd hx
 obtain⟨hs,hc⟩:=hv.cells (.inr ⟨_,rfl⟩)
 have hex:(execOp a.eval o).run P w=.ok (.value (.pointer (some ⟨w.heap.size,0,none⟩))) (w.alloc (.cells (a.eval x).cells T)):=by simp [execOp,ho,Instr.box,newVar,newRow]
 rw [Ql5 hex]
 rw [QN]at h1 h2
 have hz':=QZ hz
 have hlt':b<607:=by
  rcases Qbv b 607 with h | h
  ·exact h
  rw [Qfj h]at hlt;cases hlt
 obtain⟨φ',hr'⟩:=hr.grow (T:=T) (ys:=(a.eval x).cells) hb hlt' hz' h1 (by rw [hs];exact hz') fun j x' v hx' hv'=>(hc j x' v hx' hv').toDat (h2 v (QQ hv'))
 refine k (fun i=>if i=rs.length then w.heap.size else A i) (fun i hi=>by simp [Nat.ne_of_lt hi]) _ _ ⟨φ',?_⟩
 rw [hd]
 refine hr'.put (QM hn) ?_
 have:(QL (fun i=>if i=rs.length then w.heap.size else A i) (some rs.length))=.lit (.pointer (some ⟨w.heap.size,0,none⟩)):=by simp [QL]
 rw [this]
 exact .dat (.lit _)
theorem AK.newTbl {Q:Exit→St→Prop}{pt:Pt}{ks:List Fr}(b z:Nat)(A:Nat→Nat)(hb:look σ.hp b=none)(hlt:Nat.ble 607 b=false)(k:AK P C Q pt ks (σ.set b (.tbl A z []))):AK P C Q pt ks σ:=by
 have hlt':b<607:=by
  rcases Qbv b 607 with h | h
  ·exact h
  rw [Qfj h]at hlt;cases hlt
 refine AK.weaken (fun a w ⟨φ,h⟩=>⟨φ,?_⟩) k
 have hn:=h.none_of_look hb
 refine⟨h.os,h.tape,h.output,h.size,h.kept,h.inj,?_,h.lt,h.new,⟨h.stay.1,fun o ob B hge ho hB=>h.stay.2 o ob B hge (by rwa [σ.look_set_other _ (by omega)]at ho) hB⟩,h.tmps,h.defers,h.frame,?_⟩
 ·intro o B hB
  by_cases e:o=b
  ·subst e;exact⟨_,σ.look_set_same _ _⟩
  obtain⟨ob,h1⟩:=h.dom o B hB;exact⟨ob,by rw [σ.look_set_other _ (Ne.symm e)];exact h1⟩
 intro o ob hob
 by_cases e:o=b
 ·subst e;rw [σ.look_set_same]at hob;cases hob;exact .inr ⟨hn,rfl⟩
 rw [σ.look_set_other _ (Ne.symm e)]at hob;exact h.heap o ob hob
def okP (n:Nat)(p:Option Nat):Bool:=match p with
 | some k=>decide (k<n)
 | none=>true
theorem QmU {A':Nat→Nat}{n:Nat}{p:Option Nat}(h:∀i,i<n→A' i=A i)(hp:okP n p=true):QL A p=QL A' p:=by
 cases p with
 | none=>rfl
 | some k=>simp only [okP,Qbw]at hp;simp [QL,h k hp]
theorem Qo0 {A':Nat→Nat}{n:Nat}{l:List (Option Nat)}(h:∀i,i<n→A' i=A i)(hl:l.all (okP n)=true):l.map (QA A)=l.map (QA A'):=by
 rw [QN]at hl
 exact QgN fun p hp=>by rw [QA,QA,QmU h (hl p hp)]
theorem Qo1 {κ:Type}{e:κ→V}{A':Nat→Nat}{n:Nat}{l:List (κ×Option Nat)}(h:∀i,i<n→A' i=A i)(hl:l.all (fun q=>okP n q.2)=true):QF e (QL A) l=QF e (QL A') l:=by
 rw [QN]at hl
 exact QgN fun p hp=>by rw [QmU h (hl p hp)]
end
end Go.Vm
namespace Go.Vm
open Go Go.RowKit Go.Shelf Go.Lib Go.Proofs
theorem QeQ {P:Program}(w:World)(dT sT ty elem:TypeId)(g o dLen dCap:Nat)(a:Addr)(sLen sCap z m:Nat)(cur:Array Value)(t:TypeId)(cs:List Value)
  (hu:P.underlying dT=some (.slice elem)) (hs:(P.info? elem).map (·.size)=some z)
  (hg:w.heap[g]? = some (.cells cur t (0,0))) (hm:Nat.min sLen dLen=m) (hn:cs.length=m*z)
  (hsrc:∀(j:Nat) v,cs[j]? = some v→w.cell? (a.add j)=some v) (hfit:o+cs.length≤cur.size) (h1:∀v∈cs,v.oneCell'=true):
  (Builtin.copy_ #[dT,sT] ty #[.slice (some ⟨g,o,none⟩) dLen dCap,.slice (some a) sLen sCap]).run P w =
   .ok (goInt m) (w.setRow g (cur.toList.take o++cs++cur.toList.drop (o+cs.length)).toArray):=by
 have hl:=run_loadCells_list (P:=P) w a cs hsrc
 have hst:=run_storeCells_at P g o t cs 0 cur w hg (by simpa using hfit) h1
 cases hq:P.info? elem with
 | none=>simp [hq]at hs
 | some i=>
  have hi:i.size=z:=by simpa [hq] using hs
  simp [Builtin.copy_,run_underlying hu,Builtin.lenOf,Builtin.firstCells,sizeOf,typeInfo,hq,hi,hm,←hn,hl,hst]
noncomputable def Qpt (ρ:Ren)(nm:String):Func:={ Body2.n22 ρ with name:=nm }
noncomputable def ovF (ρ:Ren)(nm:String):Func:={ Body2.n29 ρ with name:=nm }
theorem Qja (ρ:Ren)(nm:String):(Qpt ρ nm).ntmps=95:=rfl
structure QjQ (P:Program) (ρ:Ren) (n1 n2:String) (E z by_:Nat) (zv:Value):Prop where
 mixed:P.follows .mixedOrders=true
 f22:P.funcs[ρ.f 22]? = some (Qpt ρ n1)
 f29:P.funcs[ρ.f 29]? = some (ovF ρ n2)
 nm:(n2 == "runtime.NumGoroutine")=false
 nx:Extern.findNext (ovF ρ n2)=none
 fd:Extern.find (ovF ρ n2)=some (Extern.SlicesOverlaps.overlaps #[(ρ.t 24),(ρ.t 24)] #[(ρ.t 4)])
 t0:P.underlying (ρ.t 0)=some (TypeDesc.tuple #[])
 t3:P.underlying (ρ.t 3)=some (TypeDesc.int IntKind.i64)
 t4:P.underlying (ρ.t 4)=some (TypeDesc.bool)
 t24:P.underlying (ρ.t 24)=some (TypeDesc.slice E)
 zE:∀w,(Go.sizeOf E).run P w=.ok z w
 iE:(P.info? E).map (fun i=>(i.zero,i.size,i.bytes))=some (some zv,z,by_)
 zc:zv.cells.size=z
 z0:0<z
 small:by_≤32768
variable {P:Program}{ρ:Ren}{n1 n2:String}{E z by_:Nat}{zv:Value}
theorem Qgn (l:List Value)(o:Nat)(vs:List Value)(h:o+vs.length≤l.length)(k:Nat):
  (l.take o++vs++l.drop (o+vs.length))[k]? = if k<o then l[k]? else if k<o+vs.length then vs[k-o]? else l[k]? := by
 by_cases h1:k<o
 ·rw [if_pos h1,QbK,Qay (by simp;omega),QaJ,if_pos h1]
 rw [if_neg h1]
 by_cases h2:k<o+vs.length
 ·rw [if_pos h2,Qay (by simp;omega),QaP (by simp;omega)];congr 1;simp;omega
 rw [if_neg h2,QaP (by simp;omega),Qbj];congr 1;simp;omega
theorem QdE (l:List Value)(o:Nat)(vs:List Value)(h:o+vs.length≤l.length):(l.take o++vs++l.drop (o+vs.length)).length=l.length:=by simp;omega
set_option maxHeartbeats 4000000 in
set_option maxRecDepth 605 in
theorem QnU (L:QjQ P ρ n1 n2 E z by_ zv)(b off n c i vb voff vc:Nat)(cur vcur:Array Value)(Eb Ev:TypeId)(cs vs:List Value)(w:World)(hi:i<n)(hroom:n+1≤c)(hn32:n+1≤4294967296)(hg:w.heap[b]? = some (.cells cur Eb (0,0)))
  (hfit:off+c*z≤cur.size) (hcl:cs.length=n*z) (hcs:∀(j:Nat) v,cs[j]? = some v→cur[off+j]? = some v) (h1c:∀v∈cs,v.oneCell'=true) (hvl:vs.length=z) (hvg:w.heap[vb]? = some (.cells vcur Ev (0,0)))
  (hvs:∀(j:Nat) v,vs[j]? = some v→vcur[voff+j]? = some v) (hvb:vb≠b) (h1v:∀v∈vs,v.oneCell'=true):
  Calls P (ρ.f 22) #[.slice (some ⟨b,off,none⟩) n c,.int .i64 i,.slice (some ⟨vb,voff,none⟩) 1 vc] w fun e w'=>
   e=.returned (.slice (some ⟨b,off,none⟩) (n+1) c)∧w'.os=w.os∧w'.tape=w.tape∧w'.output=w.output∧w'.heap.size=w.heap.size∧(∀k,k≠b→w'.heap[k]? = w.heap[k]?)∧
   ∃cur':Array Value,w'.heap[b]? = some (.cells cur' Eb (0,0))∧cur'.size=cur.size∧∀(j:Nat) v,(cs.take (i*z)++vs++cs.drop (i*z))[j]? = some v→cur'[off+j]? = some v:=by
 have t0:=L.t0;have t3:=L.t3;have t4:=L.t4;have t24:=L.t24
 have u0:=run_underlying L.t0;have u3:=run_underlying L.t3;have u4:=run_underlying L.t4;have u24:=run_underlying L.t24
 have zE:=L.zE
 have mixed:=L.mixed
 obtain⟨i0,hi0,hz0,hzs,hzb⟩:=info_parts L.iE
 have hsz:(P.info? E).map (·.size)=some z:=by rw [hi0];simp [hzs]
 have hzp:=L.z0
 have hnz:n*z+z≤c*z:=by have:=Qaz z hroom;rwa [Qak,QeN]at this
 have hin:(i+1)*z≤n*z:=Qaz z hi
 have hi1:(i+1)*z=i*z+z:=by rw [Qak,QeN]
 have hov:∀lb cb,(callFunc (ρ.f 29) #[.slice (some ⟨vb,voff,none⟩) 1 vc,.slice (some ⟨b,off+(i*z+z),none⟩) lb cb]).run P w=.ok (.value (.bool false)) w:=fun lb cb=>by
  rw [run_callFunc_extern L.f29 L.nm rfl L.nx L.fd,
   Lib.run_overlaps_apart w (ρ.t 24) (ρ.t 4) E L.t24 z L.zE ⟨vb,voff,none⟩ ⟨b,off+(i*z+z),none⟩ 1 vc lb cb hvb Ev Eb vcur.size cur.size (by simp [World.shape?,hvg]) (by simp [World.shape?,hg]) (by omega) (by simp [World.frozen?,hvg]) (by simp [World.frozen?,hvg])]
  rfl
 have hz1:¬((1:Int)=0):=by omega
 have hz2:¬((i:Int)=(n:Int)):=by omega
 have hdl:(cs.drop (i*z)).length=(n-i)*z:=by rw [List.length_drop,hcl,Nat.sub_mul]
 have hw1:IntKind.i64.wrap ((i:Int)+1)=(i:Int)+1:=by rw [IntKind.wrap_i64];omega
 have hw2:IntKind.i64.wrap ((n:Int)+1)=(n:Int)+1:=by rw [IntKind.wrap_i64];omega
 have hb0:(0:Int)≤(i:Int):=by omega
 have hb1:(0:Int)≤(i:Int)+1:=by omega
 have hb5:(0:Int)≤(n:Int)+1:=by omega
 have hin':i≤n:=by omega
 have htn:((i:Int)+1).toNat=i+1:=by omega
 have htn2:((n:Int)+1).toNat=n+1:=by omega
 have hb2:¬(c=i+1):=by omega
 have hb3:(i:Int)≤(n:Int)+1:=by omega
 have hb4:¬(c=i):=by omega
 have hb6:(i:Int)+1≤(n:Int)+1:=by omega
 have hb7:¬((c:Int)<(n:Int)+1):=by omega
 have hb8:(n:Int)+1≤(c:Int):=by omega
 have hb9:(i:Int)≤(n:Int):=by omega
 obtain⟨cur1,hcur1⟩:∃cur1:Array Value,cur1=(cur.toList.take (off+(i*z+z))++cs.drop (i*z)++cur.toList.drop (off+(i*z+z)+(cs.drop (i*z)).length)).toArray:=⟨_,rfl⟩
 have hni:n*z=i*z+(n-i)*z:=by rw [←Qak];congr 1;omega
 have hl1:off+(i*z+z)+(cs.drop (i*z)).length≤cur.toList.length:=by rw [hdl];simp;omega
 have hs1:cur1.size=cur.size:=by rw [hcur1];simpa using QdE cur.toList _ _ hl1
 have hcp1:∀ty dc sc,(Builtin.copy_ #[(ρ.t 24),(ρ.t 24)] ty #[.slice (some ⟨b,off+(i*z+z),none⟩) (n-i) dc,.slice (some ⟨b,off+i*z,none⟩) (n+1-i) sc]).run P w.drew=.ok (goInt (n-i:Nat)) (w.drew.setRow b cur1):=fun ty dc sc=>by
  rw [hcur1]
  exact QeQ w.drew _ _ ty E b (off+(i*z+z)) (n-i) dc ⟨b,off+i*z,none⟩ (n+1-i) sc z (n-i) cur Eb (cs.drop (i*z)) L.t24 hsz hg (by simp only [Nat.min_def];split<;>omega) hdl
   (fun j v hj=>by
    rw [Qbj]at hj
    have:=hcs _ v hj
    rw [Addr.add_lit]
    show(match w.heap[b]? with | some (.cells c _ _)=>c[off+i*z+j]? | _=>none)=some v
    simp only [hg,Qef,this]) (by simpa using hl1) (fun v hv=>h1c v (Qga hv))
 obtain⟨cur2,hcur2⟩:∃cur2:Array Value,cur2=(cur1.toList.take (off+i*z)++vs++cur1.toList.drop (off+i*z+vs.length)).toArray:=⟨_,rfl⟩
 have hl2:off+i*z+vs.length≤cur1.toList.length:=by rw [hvl];simp [hs1];omega
 have hs2:cur2.size=cur.size:=by rw [hcur2,←hs1];simpa using QdE cur1.toList _ _ hl2
 have hcp2:∀(W:World),W.heap=(w.setRow b cur1).heap→∀ty dc,(Builtin.copy_ #[(ρ.t 24),(ρ.t 24)] ty #[.slice (some ⟨b,off+i*z,none⟩) (n+1-i) dc,.slice (some ⟨vb,voff,none⟩) 1 vc]).run P W=.ok (goInt (1:Nat)) (W.setRow b cur2):=fun W hW ty dc=>by
  rw [hcur2]
  exact QeQ W _ _ ty E b (off+i*z) (n+1-i) dc ⟨vb,voff,none⟩ 1 vc z 1 cur1 Eb vs L.t24 hsz (by rw [hW];exact setRow_heap w b cur _ Eb _ hg) (by simp only [Nat.min_def];split<;>omega) (by rw [hvl,QeN])
   (fun j v hj=>by
    have:=hvs _ v hj
    rw [Addr.add_lit]
    have hh:W.heap[vb]? = some (.cells vcur Ev (0,0)):=by rw [hW,setRow_other w b vb _ hvb];exact hvg
    show(match W.heap[vb]? with | some (.cells c _ _)=>c[voff+j]? | _=>none)=some v
    simp only [hh,this]) (by simpa using hl2) h1v
 have hfin:∀(j:Nat) v,(cs.take (i*z)++vs++cs.drop (i*z))[j]? = some v→cur2[off+j]? = some v:=fun j v hj=>by
  have e1:∀k:Nat,cur1.toList[k]? = if k<off+(i*z+z)then cur.toList[k]? else if k<off+(i*z+z)+(cs.drop (i*z)).length then(cs.drop (i*z))[k-(off+(i*z+z))]? else cur.toList[k]? := fun k=>by rw [hcur1,List.toList_toArray];exact Qgn _ _ _ hl1 k
  rw [hcur2,QcX,Qgn _ _ _ hl2]
  have htl:(cs.take (i*z)).length=i*z:=by rw [QgM,hcl];omega
  by_cases h1:j<i*z
  ·rw [QbK,Qay (by omega),QaJ,if_pos h1]at hj
   rw [if_pos (by omega),e1,if_pos (by omega)]
   simpa using hcs j v hj
  by_cases h2:j<i*z+z
  ·rw [Qay (by rw [QdN];omega),QaP (by omega)]at hj
   rw [if_neg (by omega),if_pos (by omega),←hj];congr 1;omega
  rw [QaP (by rw [QdN];omega)]at hj
  have hjl:=(Qx.1 hj).1
  rw [hdl,QdN]at hjl
  rw [if_neg (by omega),if_neg (by omega),e1,if_neg (by omega),if_pos (by rw [hdl];omega),←hj];congr 1;rw [QdN];omega
 have hlast:∀W:World,W.heap=((w.setRow b cur1).setRow b cur2).heap→W.heap.size=w.heap.size∧(∀k,k≠b→W.heap[k]? = w.heap[k]?)∧
   ∃cur':Array Value,W.heap[b]? = some (.cells cur' Eb (0,0))∧cur'.size=cur.size∧∀(j:Nat) v,(cs.take (i*z)++vs++cs.drop (i*z))[j]? = some v→cur'[off+j]? = some v:=fun W hW=>by
  refine⟨by rw [hW];simp,fun k hk=>by rw [hW,setRow_other _ b k _ hk,setRow_other _ b k _ hk],cur2,?_,hs2,hfin⟩
  rw [hW];exact setRow_heap _ b cur1 _ Eb _ (setRow_heap w b cur _ Eb _ hg)
 clear hfin hs2 hl2 hcur2 hs1 hl1 hcur1
 go_enter L.f22,Qja ρ n1
 go_wp2_with (simp only [hov])
 go_region_law_o (refine step_copy_runI rfl _ _ (ρ.t 24) (ρ.t 24) rfl _ _ (by simp [Act.eval,Act.put]) (by simp [Act.eval,Act.put]) (hcp1 _ _ _) ?_)
 go_wp2_with (refine wpList_copy_runI _ rfl _ _ (ρ.t 24) (ρ.t 24) rfl _ _ rfl rfl (hcp2 _ (by rfl) _ _) ?_)
 go_ret
 exact⟨rfl,rfl,rfl,rfl,hlast _ rfl⟩
set_option maxHeartbeats 4000000 in
set_option maxRecDepth 605 in
theorem Qoy (L:QjQ P ρ n1 n2 E z by_ zv)(b off n c i vb voff vc:Nat)(cur vcur:Array Value)(Eb Ev:TypeId)(cs vs:List Value)(w:World)(hi:i<n)(hnc:n≤c)(hroom:c<n+1)(hn32:n+1≤4294967296)(hg:w.heap[b]? = some (.cells cur Eb (0,0)))
  (hcl:cs.length=n*z) (hcs:∀(j:Nat) v,cs[j]? = some v→cur[off+j]? = some v) (h1c:∀v∈cs,v.oneCell'=true) (hvl:vs.length=z) (hvg:w.heap[vb]? = some (.cells vcur Ev (0,0)))
  (hvs:∀(j:Nat) v,vs[j]? = some v→vcur[voff+j]? = some v) (h1v:∀v∈vs,v.oneCell'=true):
  Calls P (ρ.f 22) #[.slice (some ⟨b,off,none⟩) n c,.int .i64 i,.slice (some ⟨vb,voff,none⟩) 1 vc] w fun e w'=>
   ∃G,n+1≤G∧e=.returned (.slice (some ⟨w.heap.size,0,none⟩) (n+1) G)∧w'.os=w.os∧w'.tape=w.tape∧w'.output=w.output∧w'.heap.size=w.heap.size+1∧(∀k,k<w.heap.size→w'.heap[k]? = w.heap[k]?)∧
   ∃cur':Array Value,w'.heap[w.heap.size]? = some (.cells cur' E (0,0))∧cur'.size=G*z∧∀(j:Nat) v,(cs.take (i*z)++vs++cs.drop (i*z))[j]? = some v→cur'[j]? = some v:=by
 have t0:=L.t0;have t3:=L.t3;have t4:=L.t4;have t24:=L.t24
 have u0:=run_underlying L.t0;have u3:=run_underlying L.t3;have u4:=run_underlying L.t4;have u24:=run_underlying L.t24
 have zE:=L.zE
 have mixed:=L.mixed
 obtain⟨i0,hi0,hz0,hzs,hzb⟩:=info_parts L.iE
 have hsz:(P.info? E).map (·.size)=some z:=by rw [hi0];simp [hzs]
 have hzp:=L.z0
 have hsm:=L.small
 have hin:(i+1)*z≤n*z:=Qaz z hi
 have hi1:(i+1)*z=i*z+z:=by rw [Qak,QeN]
 have hbw:b<w.heap.size:=(Qcn.1 hg).1
 have hvw:vb<w.heap.size:=(Qcn.1 hvg).1
 have hkk:(n:Int)+1-(i:Int)=((n+1-i:Nat):Int):=by omega
 have hik:i+(n+1-i)=n+1:=by omega
 have hbig:(n+1)*by_≤140737488355328:=by
  have:(n+1)*by_≤4294967296*32768:=Nat.mul_le_mul hn32 hsm
  omega
 have htl:(cs.take (i*z)).length=i*z:=by rw [QgM,hcl];omega
 have hold:(Builtin.firstCells i0.size i (.slice (some ⟨b,off,none⟩) i c)).run P w.drew=.ok (cs.take (i*z)).toArray w.drew:=by
  rw [hzs]
  exact run_firstCells_some w.drew z i ⟨b,off,none⟩ i c (cs.take (i*z)) htl (fun j v hj=>by
   rw [Addr.add_lit]
   rw [QaJ]at hj
   split at hj
   ·show(match w.heap[b]? with | some (.cells c _ _)=>c[off+j]? | _=>none)=some v
    simp only [hg,hcs j v hj]
   cases hj)
 have hrz:∀ty,(Builtin.append_ #[(ρ.t 24),(ρ.t 3)] ty #[.slice (some ⟨b,off,none⟩) i c,.int .i64 ((n:Int)+1-(i:Int))]).run P w =
   .ok (.slice (some ⟨w.heap.size,0,none⟩) (n+1) (grownCap w (n+1) c E)) (w.drew.alloc (.cells ((cs.take (i*z)).toArray++Builtin.zeroCells zv.cells (n+1-i)++Builtin.zeroCells zv.cells (grownCap w (n+1) c E-(n+1))) E)):=fun ty=>by
  have h:=Lib.run_append_grow_zeros w (ρ.t 24) (ρ.t 3) ty E i0 _ .i64 .i64 L.t24 L.t3 hi0 hz0 (some ⟨b,off,none⟩) i c (cs.take (i*z)) hold (n+1-i) (by omega) (by rw [hzs];omega) (by omega) (by omega)
   (by rw [hzb];have:(n+1-i)*by_≤(n+1)*by_:=Qaz _ (by omega);omega) (by rw [hzb,hik];exact growslice_fits hroom hbig)
  rw [hik]at h
  rw [hkk]
  exact h
 have hGn:n+1≤grownCap w (n+1) c E:=grownCap_ge w _ _ _
 obtain⟨G,hG⟩:∃G,G=grownCap w (n+1) c E:=⟨_,rfl⟩
 rw [←hG]at hrz hGn
 obtain⟨ROW,hROW⟩:∃ROW:Array Value,ROW=(cs.take (i*z)).toArray++Builtin.zeroCells zv.cells (n+1-i)++Builtin.zeroCells zv.cells (G-(n+1)):=⟨_,rfl⟩
 rw [←hROW]at hrz
 have hRl:ROW.size=G*z:=by
  rw [hROW]
  simp only [Array.size_append,QiL,htl,size_zeroCells,L.zc,←Qak]
  congr 1;omega
 have hRold:∀(j:Nat) v,(cs.take (i*z))[j]? = some v→ROW[j]? = some v:=fun j v hj=>by
  have hjl:=(Qx.1 hj).1
  rw [hROW,Qkq (by simp;omega),Qkq (by simpa using hjl)]
  simpa using hj
 have hGz:(n+1)*z≤G*z:=Qaz z hGn
 have hn1:(n+1)*z=n*z+z:=by rw [Qak,QeN]
 have hdl:(cs.drop (i*z)).length=(n-i)*z:=by rw [List.length_drop,hcl,Nat.sub_mul]
 have hni:n*z=i*z+(n-i)*z:=by rw [←Qak];congr 1;omega
 obtain⟨row1,hrow1⟩:∃row1:Array Value,row1=(ROW.toList.take (i*z)++vs++ROW.toList.drop (i*z+vs.length)).toArray:=⟨_,rfl⟩
 have hl1:i*z+vs.length≤ROW.toList.length:=by rw [hvl];simp [hRl];omega
 have hs1:row1.size=G*z:=by rw [hrow1,←hRl];simpa using QdE ROW.toList _ _ hl1
 obtain⟨row2,hrow2⟩:∃row2:Array Value,row2=(row1.toList.take (i*z+z)++cs.drop (i*z)++row1.toList.drop (i*z+z+(cs.drop (i*z)).length)).toArray:=⟨_,rfl⟩
 have hl2:i*z+z+(cs.drop (i*z)).length≤row1.toList.length:=by rw [hdl];simp [hs1];omega
 have hs2:row2.size=G*z:=by rw [hrow2,←hs1];simpa using QdE row1.toList _ _ hl2
 obtain⟨W1,hW1⟩:∃W1,W1=w.drew.alloc (.cells ROW E):=⟨_,rfl⟩
 have hN:W1.heap[w.heap.size]? = some (.cells ROW E (0,0)):=by rw [hW1];exact heap_alloc_new w.drew _
 have hO:∀k,k<w.heap.size→W1.heap[k]? = w.heap[k]? := fun k hk=>by rw [hW1];exact Below.heap_alloc w.drew _ k hk
 have hWs:W1.heap.size=w.heap.size+1:=by rw [hW1];simp
 rw [←hW1]at hrz
 have hcpA:∀(W:World),W.heap=W1.heap→∀ty dc,(Builtin.copy_ #[(ρ.t 24),(ρ.t 24)] ty #[.slice (some ⟨w.heap.size,i*z,none⟩) (n+1-i) dc,.slice (some ⟨vb,voff,none⟩) 1 vc]).run P W=.ok (goInt (1:Nat)) (W.setRow w.heap.size row1):=fun W hW ty dc=>by
  rw [hrow1]
  exact QeQ W _ _ ty E w.heap.size (i*z) (n+1-i) dc ⟨vb,voff,none⟩ 1 vc z 1 ROW E vs L.t24 hsz (by rw [hW];exact hN) (by simp only [Nat.min_def];split<;>omega) (by rw [hvl,QeN])
   (fun j v hj=>by
    have:=hvs _ v hj
    rw [Addr.add_lit]
    have hh:W.heap[vb]? = some (.cells vcur Ev (0,0)):=by rw [hW,hO _ hvw];exact hvg
    show(match W.heap[vb]? with | some (.cells c _ _)=>c[voff+j]? | _=>none)=some v
    simp only [hh,this]) (by simpa using hl1) h1v
 have hcpB:∀(W:World),W.heap=(W1.setRow w.heap.size row1).heap→∀ty dc sc,(Builtin.copy_ #[(ρ.t 24),(ρ.t 24)] ty #[.slice (some ⟨w.heap.size,i*z+z,none⟩) (n-i) dc,.slice (some ⟨b,off+i*z,none⟩) (n-i) sc]).run P W=.ok (goInt (n-i:Nat)) (W.setRow w.heap.size row2):=fun W hW ty dc sc=>by
  rw [hrow2]
  exact QeQ W _ _ ty E w.heap.size (i*z+z) (n-i) dc ⟨b,off+i*z,none⟩ (n-i) sc z (n-i) row1 E (cs.drop (i*z)) L.t24 hsz (by rw [hW];exact setRow_heap W1 _ ROW _ E _ hN) (Nat.min_self _) hdl
   (fun j v hj=>by
    rw [Qbj]at hj
    have:=hcs _ v hj
    rw [Addr.add_lit]
    have hh:W.heap[b]? = some (.cells cur Eb (0,0)):=by rw [hW,setRow_other W1 _ b _ (by omega),hO _ hbw];exact hg
    show(match W.heap[b]? with | some (.cells c _ _)=>c[off+i*z+j]? | _=>none)=some v
    simp only [hh,Qef,this]) (by simpa using hl2) (fun v hv=>h1c v (Qga hv))
 have hfin:∀(j:Nat) v,(cs.take (i*z)++vs++cs.drop (i*z))[j]? = some v→row2[j]? = some v:=fun j v hj=>by
  have e1:∀k:Nat,row1.toList[k]? = if k<i*z then ROW.toList[k]? else if k<i*z+vs.length then vs[k-i*z]? else ROW.toList[k]? := fun k=>by rw [hrow1,List.toList_toArray];exact Qgn _ _ _ hl1 k
  rw [hrow2,QcX,Qgn _ _ _ hl2]
  by_cases h1:j<i*z
  ·rw [QbK,Qay (by omega)]at hj
   rw [if_pos (by omega),e1,if_pos (by omega)]
   simpa using hRold j v hj
  by_cases h2:j<i*z+z
  ·rw [Qay (by rw [QdN];omega),QaP (by omega)]at hj
   rw [if_pos (by omega),e1,if_neg h1,if_pos (by omega),←hj];congr 1;omega
  rw [QaP (by rw [QdN];omega)]at hj
  have hjl:=(Qx.1 hj).1
  rw [QdN]at hjl
  rw [if_neg (by omega),if_pos (by omega),←hj];congr 1;rw [QdN];omega
 have hlast:∀W:World,W.heap=((W1.setRow w.heap.size row1).setRow w.heap.size row2).heap→W.heap.size=w.heap.size+1∧(∀k,k<w.heap.size→W.heap[k]? = w.heap[k]?)∧
   ∃cur':Array Value,W.heap[w.heap.size]? = some (.cells cur' E (0,0))∧cur'.size=G*z∧∀(j:Nat) v,(cs.take (i*z)++vs++cs.drop (i*z))[j]? = some v→cur'[j]? = some v:=fun W hW=>by
  refine⟨by rw [hW];simp [hWs],fun k hk=>by rw [hW,setRow_other _ _ k _ (by omega),setRow_other _ _ k _ (by omega),hO k hk],row2,?_,hs2,hfin⟩
  rw [hW];exact setRow_heap _ _ row1 _ E _ (setRow_heap W1 _ ROW _ E _ hN)
 have hWo:W1.os=w.os∧W1.tape=w.tape∧W1.output=w.output:=by rw [hW1];exact⟨rfl,rfl,rfl⟩
 have hz1:¬((1:Int)=0):=by omega
 have hz2:¬((i:Int)=(n:Int)):=by omega
 have hz3:(c:Int)<(n:Int)+1:=by omega
 have hw1:IntKind.i64.wrap ((i:Int)+1)=(i:Int)+1:=by rw [IntKind.wrap_i64];omega
 have hw2:IntKind.i64.wrap ((n:Int)+1)=(n:Int)+1:=by rw [IntKind.wrap_i64];omega
 have hw3:IntKind.i64.wrap ((n:Int)+1-(i:Int))=(n:Int)+1-(i:Int):=by rw [IntKind.wrap_i64];omega
 have hb0:(0:Int)≤(i:Int):=by omega
 have hb1:(0:Int)≤(i:Int)+1:=by omega
 have htn:((i:Int)+1).toNat=i+1:=by omega
 have hb3:(i:Int)≤(n:Int):=by omega
 have hb4:(i:Int)≤(c:Int):=by omega
 have hb5:(i:Int)≤(n:Int)+1:=by omega
 have hb6:(i:Int)+1≤(n:Int)+1:=by omega
 have hGi:¬(G=i):=by omega
 have hGim:¬(G=i+1):=by omega
 have hci:¬(c=i):=by omega
 clear hfin hs2 hl2 hrow2 hs1 hl1 hrow1 hO hN hWs hRold hRl hROW hG hold hkk hik hW1
 go_enter L.f22,Qja ρ n1
 go_wp2_with (first
  | (at_builtin;refine Lib.wpList_append_run _ rfl _ _ _ _ rfl _ _ rfl rfl _ _ (hrz _) ?_)
  | (refine wpList_copy_runI _ rfl _ _ (ρ.t 24) (ρ.t 24) rfl _ _ rfl rfl (hcpA _ (by rfl) _ _) ?_))
 go_region_law_o (refine step_copy_runI rfl _ _ (ρ.t 24) (ρ.t 24) rfl (.slice (some ⟨w.heap.size,i*z+z,none⟩) (n-i) (G-(i+1))) (.slice (some ⟨b,off+i*z,none⟩) (n-i) (c-i)) (by simp [Act.eval,Act.put]) (by simp [Act.eval,Act.put]) (hcpB _ (by rfl) _ _ _) ?_)
 go_wp2
 go_ret
 exact⟨G,hGn,rfl,hWo.1,hWo.2.1,hWo.2.2,hlast _ rfl⟩
set_option maxHeartbeats 4000000 in
set_option maxRecDepth 605 in
theorem Qly (L:QjQ P ρ n1 n2 E z by_ zv)(base va:Option Addr)(n c vc:Nat)(w:World)(v':Value)(w':World)
  (hrz:∀ty,(Builtin.append_ #[(ρ.t 24),(ρ.t 24)] ty #[.slice base n c,.slice va 1 vc]).run P w=.ok v' w'):
  Calls P (ρ.f 22) #[.slice base n c,.int .i64 n,.slice va 1 vc] w fun e w2=>e=.returned v'∧w2=w':=by
 have t0:=L.t0;have t3:=L.t3;have t4:=L.t4;have t24:=L.t24
 have u0:=run_underlying L.t0;have u3:=run_underlying L.t3;have u4:=run_underlying L.t4;have u24:=run_underlying L.t24
 have zE:=L.zE
 have mixed:=L.mixed
 have hz1:¬((1:Int)=0):=by omega
 have hb0:(0:Int)≤(n:Int):=by omega
 go_enter L.f22,Qja ρ n1
 go_wp2_with (at_builtin;refine Lib.wpList_append_run _ rfl _ _ _ _ rfl _ _ rfl rfl _ _ (hrz _) ?_)
 all_goals
  go_ret
  exact⟨rfl,rfl⟩
def QbB (I:Nat→Prop)(w:World)(z:Nat)(l:List Value)(rs:List (List V)):Prop:=l.length=rs.length*z∧(∀r∈rs,Qb8 z r)∧(∀u∈l,u.oneCell'=true)∧∀(i:Nat) r,rs[i]? = some r→∀(j:Nat) v,r[j]? = some v→∃u,l[i*z+j]? = some u∧Dat I w u v
theorem QbB.append {I:Nat→Prop}{w:World}{l m:List Value}{rs us:List (List V)}(h:QbB I w z l rs)(k:QbB I w z m us):QbB I w z (l++m) (rs++us):=by
 obtain⟨h1,h2,h3,h4⟩:=h
 obtain⟨k1,k2,k3,k4⟩:=k
 obtain⟨g1,g2⟩:=Qge (rest:=[]) (n:=rs.length) rfl h1 h2 k2 k1 h4 k4
 refine⟨by rw [QdN,QdN,h1,k1,Qak],g1,fun u hu=>(Qff.1 hu).elim (h3 u) (k3 u),by simpa using g2⟩
theorem QbB.take {I:Nat→Prop}{w:World}{l:List Value}{rs:List (List V)}(h:QbB I w z l rs){i:Nat}(hi:i≤rs.length):QbB I w z (l.take (i*z)) (rs.take i):=by
 obtain⟨h1,h2,h3,h4⟩:=h
 have hle:i*z≤rs.length*z:=Qaz z hi
 refine⟨by rw [QgM,QgM,h1,Nat.min_eq_left hle,Nat.min_eq_left hi],fun r hr=>h2 r (QdO hr),fun u hu=>h3 u (QdO hu),fun k r hk j v hj=>?_⟩
 rw [QaJ]at hk
 split at hk
 ·rename_i hki
  obtain⟨u,hu,hD⟩:=h4 k r hk j v hj
  have hjz:j<z:=by have:=(Qx.1 hj).1;rwa [(h2 r (QQ hk)).1]at this
  have:(k+1)*z≤i*z:=Qaz z hki
  rw [Qak]at this
  exact⟨u,by rw [QaJ,if_pos (by omega)];exact hu,hD⟩
 cases hk
theorem QbB.drop {I:Nat→Prop}{w:World}{l:List Value}{rs:List (List V)}(h:QbB I w z l rs){i:Nat}(hi:i≤rs.length):QbB I w z (l.drop (i*z)) (rs.drop i):=by
 obtain⟨h1,h2,h3,h4⟩:=h
 refine⟨by rw [List.length_drop,List.length_drop,h1,Nat.sub_mul],fun r hr=>h2 r (Qga hr),fun u hu=>h3 u (Qga hu),fun k r hk j v hj=>?_⟩
 rw [Qbj]at hk
 obtain⟨u,hu,hD⟩:=h4 _ r hk j v hj
 exact⟨u,by rw [Qbj,←hu];congr 1;rw [Qak];omega,hD⟩
theorem QbB.mono {I I':Nat→Prop}{w w':World}(hI:∀k,I k→I' k∧w'.heap[k]? = w.heap[k]?){l:List Value}{rs:List (List V)}(h:QbB I w z l rs):QbB I' w' z l rs:=
 ⟨h.1,h.2.1,h.2.2.1,fun i r hi j v hj=>let ⟨u,hu,hD⟩:=h.2.2.2 i r hi j v hj;⟨u,hu,hD.mono hI⟩⟩
theorem Q0.flat {I:Nat→Prop}{w:World}{B:Blk}{rs:List (List V)}(hz0:0<z)(h:Q0 I w B z rs):B.z=z∧rs.length≤B.cap∧∃cs E l,w.heap[B.b]? = some (.cells cs E (0,0))∧B.off+B.cap*z≤cs.size∧QbB I w z l rs∧
  ∀(j:Nat) v,l[j]? = some v→cs[B.off+j]? = some v:=by
 obtain⟨h1,h2,h3,cs,E,h4,h5,h6⟩:=h
 have hle:rs.length*z≤B.cap*z:=Qaz z h2
 have hl:∀(j:Nat),j<rs.length*z→((cs.toList.drop B.off).take (rs.length*z))[j]? = cs[B.off+j]? := fun j hj=>by rw [QaJ,if_pos hj,Qbj];simp
 have hlen:((cs.toList.drop B.off).take (rs.length*z)).length=rs.length*z:=by simp;omega
 refine⟨h1,h2,cs,E,(cs.toList.drop B.off).take (rs.length*z),h4,h5,⟨hlen,h3,fun u hu=>?_,fun i r hi j v hj=>?_⟩,fun j v hj=>?_⟩
 ·obtain⟨k,hk⟩:=Qfg.1 hu
  have hkl:=(Qx.1 hk).1
  rw [hlen]at hkl
  rw [hl k hkl]at hk
  have hi:k / z<rs.length:=(Nat.div_lt_iff_lt_mul hz0).2 hkl
  have hrow:=h3 rs[k / z] (Qb7 _)
  have hjz:k % z<(rs[k / z]).length:=by rw [hrow.1];exact Nat.mod_lt _ hz0
  obtain⟨x,hx,hD⟩:=h6 (k / z) _ (QI hi) (k % z) _ (QI hjz)
  rw [show k / z*z+k % z=k by rw [Nat.mul_comm];exact Nat.div_add_mod k z,hk]at hx
  cases hx
  exact((Rep.dat (φ:=fun _=>none) hD).oneCell (hrow.2 _ (Qb7 _))).2
 ·have hil:=(Qx.1 hi).1
  have hjz:j<z:=by have:=(Qx.1 hj).1;rwa [(h3 r (QQ hi)).1]at this
  have:(i+1)*z≤rs.length*z:=Qaz z hil
  rw [Qak]at this
  rw [hl _ (by omega)]
  exact h6 i r hi j v hj
 have hjl:=(Qx.1 hj).1
 rw [hlen]at hjl
 rw [←hl j hjl];exact hj
theorem Qoz {S:Nat→Prop}{φ:Nat→Option Blk}{w w':World}{vals:Array Value}{args:List V}{rs us rs':List (List V)}{B':Blk}{l:List Value}{cur':Array Value}{E':TypeId}(hi:Ins S φ w vals args [(605,.arr z rs),(606,.arr z us)])
  (ho:w'.os=w.os) (ht:w'.tape=w.tape) (hu:w'.output=w.output) (hs:w.heap.size≤w'.heap.size) (hm:B'.more=[]) (hBz:B'.z=z) (hlt:B'.b<w'.heap.size) (hk:∀k,k<w.heap.size→k≠B'.b→w'.heap[k]? = w.heap[k]?)
  (hold:B'.b<w.heap.size→∃B,φ 605=some B∧B.has B'.b) (hl:QbB S w z l rs') (hg:w'.heap[B'.b]? = some (.cells cur' E' (0,0))) (hsz:B'.off+B'.cap*z≤cur'.size) (hcap:rs'.length≤B'.cap)
  (hc:∀(j:Nat) v,l[j]? = some v→cur'[B'.off+j]? = some v):
  Outs S φ w (fun o=>if o=605 then some B' else none) w' (.slice (some ⟨B'.b,B'.off,none⟩) rs'.length B'.cap) (.own 605 rs'.length) [(605,.arr z rs')]:=by
 have hB:∀k,B'.has k↔k=B'.b:=fun k=>by simp [Blk.has,hm]
 have hφ:∀o B,(if o=605 then some B' else none)=some B→o=605∧B=B':=fun o B h=>by
  split at h
  ·rename_i e;cases h;exact⟨e,rfl⟩
  cases h
 have hS:∀k,S k→k<w.heap.size∧k≠B'.b:=fun k hk'=>⟨hi.lt k hk',fun e=>by
  obtain⟨B,h1,h2⟩:=hold (e▸hi.lt k hk')
  exact((hi.dom _ B h1).2.1 _ h2).2 (e▸hk')⟩
 have hA:∀k,S k→Aft S (fun o=>if o=605 then some B' else none) w w' k∧w'.heap[k]? = w.heap[k]? := fun k hk'=>by
  obtain⟨h1,h2⟩:=hS k hk'
  refine⟨⟨QcQ h1 hs,fun _=>hk',fun o B h e=>?_⟩,hk k h1 h2⟩
  obtain⟨_,rfl⟩:=hφ o B h
  exact h2 ((hB k).1 e)
 refine⟨ho,ht,hu,hs,fun k h1 h2=>hk k h1 fun e=>?_,fun o o' B1 B2 k h1 h2 _ _=>?_,fun o B h=>?_,fun o B k h h2=>?_,fun o B k h h2 h3=>?_,⟨fun o B h1 h=>?_,fun o ob B h1 h2 h3=>?_⟩,.own 605 _ B' (by simp) hcap,fun o ob h=>?_⟩
 ·obtain⟨B,h3,h4⟩:=hold (e▸h1)
  exact h2 _ B h3 (e▸h4)
 ·rw [(hφ o B1 h1).1,(hφ o' B2 h2).1]
 ·rw [(hφ o B h).1];exact⟨_,Qn _ _ _⟩
 ·obtain⟨_,rfl⟩:=hφ o B h
  rw [(hB k).1 h2]
  exact⟨hlt,fun h3=>let ⟨B,h4,h5⟩:=hold h3;⟨_,B,h4,h5⟩⟩
 ·have:=(hφ o B h).1;omega
 ·have:=(hφ o B h).1;omega
 ·by_cases e:605=o
  ·omega
  rw [Ql _ _ e]at h2;cases h2
 by_cases e:605=o
 ·subst e
  rw [Qn]at h;cases h
  refine .inl ⟨B',by simp,hBz,hcap,hl.2.1,cur',E',hg,hsz,fun i r hi j v hj=>?_⟩
  obtain⟨u,hu,hD⟩:=hl.2.2.2 i r hi j v hj
  exact⟨u,hc _ u hu,hD.mono hA⟩
 rw [Ql _ _ e]at h;cases h
theorem Qmy (L:QjQ P ρ n1 n2 E z by_ zv)(rs:List (List V))(u:List V)(i:Int)(h0:0≤i)(hi:i.toNat≤rs.length)(hn:rs.length+1≤4294967296):
  Qh P (ρ.f 22) [.own 605 rs.length,.i .i64 i,.own 606 1] [(605,.arr z rs),(606,.arr z [u])] (Qp (.own 605 (rs.take i.toNat++u::rs.drop i.toNat).length) [(605,.arr z (rs.take i.toNat++u::rs.drop i.toNat))]):=by
 intro S φ w vals hin _
 obtain⟨m,rfl⟩:∃m:Nat,i=m:=⟨i.toNat,by omega⟩
 rw [Int.toNat_natCast]at hi ⊢
 have hs:=hin.size
 obtain⟨v0,v1,v2,hv⟩:∃v0 v1 v2,vals=#[v0,v1,v2]:=by
  obtain⟨l⟩:=vals
  match l,hs with
  | [x,y,z],_=>exact⟨x,y,z,rfl⟩
 subst hv
 have a0:=hin.args 0 v0 _ rfl rfl
 have a1:=(hin.args 1 v1 _ rfl rfl).i_inv
 have a2:=hin.args 2 v2 _ rfl rfl
 subst a1
 have hlen:(rs.take m++u::rs.drop m).length=rs.length+1:=by simp;omega
 have happ:rs.take m++u::rs.drop m=rs.take m++[u]++rs.drop m:=by simp
 obtain⟨i0,hi0,hz0,hzs,hzb⟩:=info_parts L.iE
 have hsm:=L.small
 have hbig:(rs.length+1)*by_≤140737488355328:=by
  have:(rs.length+1)*by_≤4294967296*32768:=Nat.mul_le_mul hn hsm
  omega
 rcases a2.own_inv with⟨_,h⟩|⟨B2,hB2,hc2,rfl⟩
 ·omega
 have hob2:Q0 S w B2 z [u]:=by
  rcases hin.heap 606 (.arr z [u]) (by rw [Ql _ _ (by omega)];exact Qn _ _ _)with⟨B',hB',hr⟩|⟨hn',_⟩
  ·rw [hB2]at hB';cases hB';exact hr
  rw [hB2]at hn';cases hn'
 obtain⟨_,_,vcur,Ev,vs,hvg,_,hvr,hvc⟩:=Q0.flat L.z0 hob2
 have hvl:vs.length=z:=by have:=hvr.1;simpa using this
 have hvs:∀(j:Nat) v,vs[j]? = some v→w.cell? ((⟨B2.b,B2.off,none⟩:Addr).add j)=some v:=fun j v hj=>by
  rw [Addr.add_lit]
  show(match w.heap[B2.b]? with | some (.cells c _ _)=>c[B2.off+j]? | _=>none)=some v
  simp only [hvg,hvc j v hj]
 have fin:∀{B':Blk} {w':World} {l:List Value} {cur':Array Value} {E':TypeId},w'.os=w.os→w'.tape=w.tape→w'.output=w.output→w.heap.size≤w'.heap.size→B'.more=[]→B'.z=z→B'.b<w'.heap.size→(∀k,k<w.heap.size→k≠B'.b→w'.heap[k]? = w.heap[k]?)→
   (B'.b<w.heap.size→∃B,φ 605=some B∧B.has B'.b)→QbB S w z l (rs.take m++u::rs.drop m)→w'.heap[B'.b]? = some (.cells cur' E' (0,0))→B'.off+B'.cap*z≤cur'.size→rs.length+1≤B'.cap→(∀(j:Nat) v,l[j]? = some v→cur'[B'.off+j]? = some v)→
   ∃x v hs' φ',Ending.returned (.slice (some ⟨B'.b,B'.off,none⟩) (rs.length+1) B'.cap)=Ending.returned x∧Qp (.own 605 (rs.take m++u::rs.drop m).length) [(605,.arr z (rs.take m++u::rs.drop m))] v hs'∧Outs S φ w φ' w' x v hs':=by
  intro B' w' l cur' E' g1 g2 g3 g4 g5 g6 g7 g8 g9 g10 g11 g12 g13 g14
  have:=Qoz (rs':=rs.take m++u::rs.drop m) hin g1 g2 g3 g4 g5 g6 g7 g8 g9 g10 g11 g12 (by rw [hlen];exact g13) g14
  exact⟨_,_,_,_,rfl,⟨rfl,fun c ob h=>h⟩,by rw [hlen]at this ⊢;exact this⟩
 have mid:∀{l:List Value},QbB S w z l rs→QbB S w z (l.take (m*z)++vs++l.drop (m*z)) (rs.take m++u::rs.drop m):=fun h=>by
  rw [happ];exact((h.take hi).append hvr).append (h.drop hi)
 rcases a0.own_inv with⟨rfl,h0⟩|⟨B,hB,hcap,rfl⟩
 ·
  have:rs=[]:=List.eq_nil_of_length_eq_zero h0
  subst this
  have hm0:m=0:=by simpa using hi
  subst hm0
  have hrun:=fun ty=>run_append_nil (P:=P) w (ρ.t 24) ty E i0 zv L.t24 hi0 hz0 ⟨B2.b,B2.off,none⟩ 1 B2.cap vs (by rw [hvl,hzs,QeN]) hvs (by omega) (by omega) (by rw [hzb];omega)
  refine(Qly L none (some ⟨B2.b,B2.off,none⟩) 0 0 B2.cap w _ _ hrun).mono ?_
  rintro e w' ⟨rfl,rfl⟩
  have hge:=grownCap_ge w 1 0 E
  refine fin (B':=⟨w.heap.size,grownCap w 1 0 E,z,[],0⟩) (l:=vs) rfl rfl rfl (by simp) rfl rfl (by simp) (fun k hk _=>Below.heap_alloc w.drew _ k hk) (fun h=>by simp at h) (by simpa using hvr) (heap_alloc_new w.drew _) ?_ hge (fun j v hj=>?_)
  ·simp only [Array.size_append,QiL,hvl,size_zeroCells,L.zc,QcY]
   have:z+(grownCap w 1 0 E-1)*z=grownCap w 1 0 E*z:=by
    have h1:grownCap w 1 0 E=1+(grownCap w 1 0 E-1):=by omega
    calc z+(grownCap w 1 0 E-1)*z=(1+(grownCap w 1 0 E-1))*z:=by rw [Qak,QeN]
     _=_:=by rw [←h1]
   omega
  have:=(Qx.1 hj).1
  rw [QcY,Qkq (by simpa using this)];simpa using hj
 have hob:Q0 S w B z rs:=by
  rcases hin.heap 605 _ (Qn _ _ _)with⟨B',hB',hr⟩|⟨hn',_⟩
  ·rw [hB]at hB';cases hB';exact hr
  rw [hB]at hn';cases hn'
 obtain⟨hBz,_,cur,Eb,cs,hg,hfit,hr,hc⟩:=Q0.flat L.z0 hob
 have hlt:B.b<w.heap.size:=((hin.dom _ _ hB).2.1 _ B.self).1
 have hne:B2.b≠B.b:=fun e=>by
  have:=hin.inj _ _ _ _ B.b hB hB2 B.self (e▸B2.self)
  omega
 have hcells:∀(j:Nat) v,cs[j]? = some v→w.cell? ((⟨B.b,B.off,none⟩:Addr).add j)=some v:=fun j v hj=>by
  rw [Addr.add_lit]
  show(match w.heap[B.b]? with | some (.cells c _ _)=>c[B.off+j]? | _=>none)=some v
  simp only [hg,hc j v hj]
 let B':Blk:=⟨B.b,B.cap,z,[],B.off⟩
 have hold:∀k,k=B.b→∃B,φ 605=some B∧B.has k:=fun k e=>⟨B,hB,e▸B.self⟩
 by_cases hend:m=rs.length
 ·subst hend
  by_cases hroom:rs.length+1≤B.cap
  ·have hfit':B.off+rs.length*i0.size+vs.length≤cur.size:=by
    rw [hzs,hvl]
    have:(rs.length+1)*z≤B.cap*z:=Qaz z hroom
    rw [Qak]at this;omega
   have hrun:=fun ty=>QhM (P:=P) (T:=ρ.t 24) (ty:=ty) L.t24 hi0 B.b B.off rs.length B.cap cur hg ⟨B2.b,B2.off,none⟩ 1 B2.cap vs (by rw [hvl,hzs,QeN]) hvs hvr.2.2.1 hroom hfit'
   refine(Qly L (some ⟨B.b,B.off,none⟩) (some ⟨B2.b,B2.off,none⟩) rs.length B.cap B2.cap w _ _ hrun).mono ?_
   rintro e w' ⟨rfl,rfl⟩
   have hl1:B.off+rs.length*z+vs.length≤cur.toList.length:=by rw [←hzs];simpa using hfit'
   refine fin (B':=B') (l:=cs.take (rs.length*z)++vs++cs.drop (rs.length*z)) rfl rfl rfl (by simp) rfl rfl (by simpa using hlt) (fun k _ hk=>setRow_other w B.b k _ hk) (fun _=>hold _ rfl) (mid hr) (setRow_heap w B.b cur _ Eb _ hg) ?_ hroom (fun j v hj=>?_)
   ·rw [hzs,QiL,QdE _ _ _ hl1];simpa using hfit
   rw [hzs,QcX,Qgn _ _ _ hl1]
   have h1:cs.drop (rs.length*z)=[]:=List.drop_eq_nil_of_le (by rw [hr.1];exact QaX _)
   rw [h1,List.append_nil,Qfi (by rw [hr.1];exact QaX _)]at hj
   have hBo:B'.off=B.off:=rfl
   by_cases hj1:j<cs.length
   ·rw [Qay hj1]at hj
    rw [if_pos (by rw [hr.1]at hj1;omega)]
    simpa using hc j v hj
   rw [QaP (by omega)]at hj
   have:=(Qx.1 hj).1
   rw [hr.1]at hj hj1 this
   rw [if_neg (by omega),if_pos (by omega),←hj];congr 1;omega
  have hrun:=fun ty=>run_append_grow (P:=P) w (ρ.t 24) ty E i0 zv L.t24 hi0 hz0 ⟨B.b,B.off,none⟩ rs.length B.cap cs (by rw [hzs];exact hr.1) hcells ⟨B2.b,B2.off,none⟩ 1 B2.cap vs (by rw [hvl,hzs,QeN]) hvs (by omega) (by omega) (by rw [hzb];exact growslice_fits (by omega) hbig)
  refine(Qly L (some ⟨B.b,B.off,none⟩) (some ⟨B2.b,B2.off,none⟩) rs.length B.cap B2.cap w _ _ hrun).mono ?_
  rintro e w' ⟨rfl,rfl⟩
  have hge:=grownCap_ge w (rs.length+1) B.cap E
  refine fin (B':=⟨w.heap.size,grownCap w (rs.length+1) B.cap E,z,[],0⟩) (l:=cs.take (rs.length*z)++vs++cs.drop (rs.length*z)) rfl rfl rfl (by simp) rfl rfl (by simp) (fun k hk _=>Below.heap_alloc w.drew _ k hk) (fun h=>by simp at h) (mid hr) (heap_alloc_new w.drew _) ?_ hge (fun j v hj=>?_)
  ·simp only [Array.size_append,QiL,hvl,hr.1,size_zeroCells,L.zc,QcY]
   have:rs.length*z+z+(grownCap w (rs.length+1) B.cap E-(rs.length+1))*z=grownCap w (rs.length+1) B.cap E*z:=by
    calc rs.length*z+z+(grownCap w (rs.length+1) B.cap E-(rs.length+1))*z=(rs.length+1+(grownCap w (rs.length+1) B.cap E-(rs.length+1)))*z:=by rw [Qak,Qak,QeN]
     _=_:=by congr 1;omega
   omega
  have h1:cs.drop (rs.length*z)=[]:=List.drop_eq_nil_of_le (by rw [hr.1];exact QaX _)
  rw [h1,List.append_nil,Qfi (by rw [hr.1];exact QaX _)]at hj
  have hjl:=(Qx.1 hj).1
  rw [QcY,Qkq (by simpa using hjl),List.append_toArray,QcX];exact hj
 by_cases hroom:rs.length+1≤B.cap
 ·refine(QnU L B.b B.off rs.length B.cap m B2.b B2.off B2.cap cur vcur Eb Ev cs vs w (by omega) hroom hn hg hfit hr.1 hc hr.2.2.1 hvl hvg hvc hne hvr.2.2.1).mono ?_
  rintro e w' ⟨rfl,g1,g2,g3,g4,g5,cur',g6,g7,g8⟩
  exact fin (B':=B') g1 g2 g3 (by omega) rfl rfl (by rw [g4];exact hlt) (fun k _ hk=>g5 k hk) (fun _=>hold _ rfl) (mid hr) g6 (by rw [g7];exact hfit) hroom g8
 refine(Qoy L B.b B.off rs.length B.cap m B2.b B2.off B2.cap cur vcur Eb Ev cs vs w (by omega) hcap (by omega) hn hg hr.1 hc hr.2.2.1 hvl hvg hvc hvr.2.2.1).mono ?_
 rintro e w' ⟨G,hG,rfl,g1,g2,g3,g4,g5,cur',g6,g7,g8⟩
 exact fin (B':=⟨w.heap.size,G,z,[],0⟩) g1 g2 g3 (by omega) rfl rfl (by show w.heap.size<_;omega) (fun k hk _=>g5 k hk) (fun h=>absurd h (Nat.lt_irrefl _)) (mid hr) g6 (by rw [g7,QcY];exact QaX _) hG (fun j v hj=>by rw [QcY];exact g8 j v hj)
def Qhl (z:Nat):Nat→List V→List (List V)
 | 0,_=>[]
 | n+1,l=>l.take z::Qhl z n (l.drop z)
theorem Qk2 {z:Nat}:∀{n:Nat} {l:List V} {i:Nat} {r:List V},(Qhl z n l)[i]? = some r→i<n∧r=(l.drop (i*z)).take z:=by
 intro n
 induction n with
 | zero=>intro l i r h;simp [Qhl]at h
 | succ n ih=>
  intro l i r h
  rw [Qhl]at h
  cases i with
  | zero=>simp at h;subst h;exact⟨by omega,by simp⟩
  | succ i=>
   simp at h
   obtain⟨h1,h2⟩:=ih h
   exact⟨by omega,by rw [h2,List.drop_drop,Qak,QeN,Nat.add_comm]⟩
theorem Qnu {z:Nat}:∀(n:Nat) (l:List V),(Qhl z n l).length=n:=by
 intro n
 induction n with
 | zero=>intro l;rfl
 | succ n ih=>intro l;rw [Qhl,Qf8,ih]
section
variable {C:Ctx}{σ:St}{o:Oper}
theorem Stp.sliceVar {T d b n:Nat}{x:Operand}{cs:List V}{rows:List (List V)}(ho:o.op=.slice T x none none none)(hd:o.dst=some d)(hn:Nat.ble (d+1) C.n=true)(hx:σ.opd x=some (.loc b 0 0))(hb:look σ.hp b=some (.var cs))(hp:Nat.ble 605 b=false)
  (hT:QgS P T=some (n,z)) (h0:Nat.ble 1 n=true) (hl:Nat.beq cs.length (n*z)=true) (h1:cs.all V.one=true) (h2:cs.all V.plain=true) (hr:Qhl z n cs=rows):Stp P C o σ ((σ.kill b).put d (.sl z rows)):=by
 refine Stp.val fun φ a w hrr=>?_
 subst hr
 obtain⟨B,hB,he⟩:=(hrr.opd hx).loc_inv
 obtain⟨xs,E,e1,e2,e0,e3⟩:=hrr.block hB hb
 obtain⟨e,hu,i,hi,hiz⟩:=Qjw hT
 have hl':=QZ hl
 have h0':=QaK h0
 rw [QN]at h1 h2
 have hev:a.eval x=.pointer (some ⟨B.b,0,none⟩):=by rw [he,e0];simp
 refine⟨.slice (some ⟨B.b,0,none⟩) n n,w,del φ b,?_,?_⟩
 ·have hn0:n≠0:=by omega
  simp [execOp,ho,hev,Instr.sliceAt,Instr.sureAddr,run_underlying hu,Instr.sliceBounds,sizeOf,typeInfo,hi,Addr.add_lit]
 rw [hd]
 refine(hrr.kill b).put (QM hn) (.dat ?_)
 have hIb:Imm C (del φ b) w B.b:=by
  refine⟨(hrr.lt b B _ hB B.self).1,fun hlt=>?_,fun o B' hB' e=>?_⟩
  ·have hb':b<605:=Qod hp
   have:=hrr.new b B _ hB B.self hb';omega
  obtain⟨h4,h5⟩:=QbD hB'
  exact h4 (hrr.inj o b B' B _ h5 hB e B.self)
 refine .sl B.b 0 n n z _ (fun j=>xs.getD j undef) hIb (Qnu n cs).symm (QaX _) (fun r hr=>?_) (fun j hj=>?_) fun i r hi j v hj=>?_
 ·obtain⟨i,hi⟩:=Qfg.1 hr
  obtain⟨hin,rfl⟩:=Qk2 hi
  have:(i+1)*z≤n*z:=Qaz z hin
  rw [Qak]at this
  exact⟨by simp;omega,fun v hv=>h1 v (Qga (QdO hv))⟩
 ·have:j<xs.size:=by omega
  simp [World.cell?,e1,Array.getD,this]
 obtain⟨hin,rfl⟩:=Qk2 hi
 rw [QaJ]at hj
 split at hj
 ·rw [Qbj]at hj
  have hlt:i*z+j<xs.size:=by rw [e2];exact(Qx.1 hj).1
  have hrep:=e3 _ xs[i*z+j] v (Qb1 hlt) hj
  have:xs.getD (i*z+j) undef=xs[i*z+j]:=by simp [Array.getD,hlt]
  rw [this]
  exact(hrep.plain (h2 v (QQ hj))).mono fun k hk=>⟨hk.of_del,rfl⟩
 cases hj
end
section
variable {P:Program}{C:Ctx}{σ:St}{o:Oper}
theorem Stp.appSB {T U d e e' z z' by_ by' b n m:Nat}{x y:Operand}{rs us rs':List (List V)}{zs:List V}(ho:o.op=.call { callee:=.builtin .append,args:=#[x,y],argTypes:=#[T,U] })
  (hd:o.dst=some d) (hn:Nat.ble (d+1) C.n=true) (hx:σ.opd x=some (.own b n)) (hb:look σ.hp b=some (.arr z rs)) (hb1:Nat.ble 607 b=false) (hnl:rs.length=n)
  (hT:QR P T=some (e,z,by_)) (hU:QR P U=some (e',z',by')) (hz:Qab P e=some zs) (hzl:zs.length=z) (hz0:z≠0) (hb0:1≤by_) (hsm:decide ((n+us.length)*by_≤140737488355328)=true)
  (hy:σ.opd y=some (.sl z us)) (he:rs++us=rs') (hm:n+us.length=m):Stp P C o σ (σ.app b z d m rs'):=
 Stp.appendB ho hd hn hx hb hb1 hnl hT hU hz hzl hz0 (QaQ (Nat.le_mul_of_pos_right _ hb0) (Qal hsm)) (Qal hsm) (fun φ a w hr=>(hr.opd hy).source_sl) he hm
theorem Qo2 {α β:Type}{us:List α}{y:List β}{n b L:Nat}(h:decide ((n+y.length)*b≤L)=true)(e:us.length=y.length):decide ((n+us.length)*b≤L)=true:=by rw [e];exact h
end
end Go.Vm
