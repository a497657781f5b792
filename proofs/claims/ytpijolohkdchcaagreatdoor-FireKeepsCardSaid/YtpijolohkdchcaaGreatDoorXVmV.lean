/- A part of the proof; what it holds is told at each theorem. -/
import Derived.Test.YtpijolohkdchcaaGreatDoorXVmR
set_option linter.unusedVariables false
set_option linter.unusedSimpArgs false
set_option linter.unusedSectionVars false
set_option linter.deprecated false
namespace Go.Vm
open Go Go.RowKit
structure Mut where
 kills:List Nat
 sets:List (Nat×Ob)
 put:Option (Nat×V)
def St.sets (σ:St):List (Nat×Ob)→St
 | []=>σ
 | (o,ob)::r=>(σ.sets r).set o ob
def Mut.run (M:Mut)(σ:St):St:=match M.put with
 | none=>(σ.killL M.kills).sets M.sets
 | some (d,v)=>((σ.killL M.kills).sets M.sets).put d v
def Sub (σ B:St):Prop:=(∀t v,look B.fr t=some v→look σ.fr t=some v)∧∀p ob,look B.hp p=some ob→look σ.hp p=some ob
theorem Qkq {b:Nat}:∀(l:List (Nat×V)) (t:Nat),look (Qg8 b l) t=(look l t).map (V.kill b):=by
 intro l
 induction l with
 | nil=>intro t;rfl
 | cons p l ih=>
  obtain⟨k,v⟩:=p
  intro t
  by_cases e:k=t
  ·subst e;rw [Qg8,Qq,Qq];rfl
  ·rw [Qg8,Qn _ _ e,Qn _ _ e];exact ih t
theorem Qij {b:Nat}:∀(l:List (Nat×Ob)) (t:Nat),look (Qd7 b l) t=if t=b then none else(look l t).map (Ob.kill b):=by
 intro l t
 by_cases h:t=b
 ·rw [if_pos h]
  cases hl:look (Qd7 b l) t with
  | none=>rfl
  | some ob=>obtain⟨h1,_⟩:=Qce _ _ _ hl;exact absurd h h1
 ·rw [if_neg h]
  cases hl:look l t with
  | none=>
   cases hk:look (Qd7 b l) t with
   | none=>rfl
   | some ob=>obtain⟨_,ob',h1,_⟩:=Qce _ _ _ hk;rw [hl]at h1;cases h1
  | some ob=>exact QeI _ _ _ h hl
theorem Sub.kill {σ B:St}(h:Sub σ B)(b:Nat):Sub (σ.kill b) (B.kill b):=by
 refine⟨fun t v hv=>?_,fun p ob hob=>?_⟩
 ·have hv:look (Qg8 b B.fr) t=some v:=hv
  show look (Qg8 b σ.fr) t=some v
  rw [Qkq]at hv ⊢
  obtain⟨u,hu,rfl⟩:=Option.map_eq_some_iff.1 hv
  rw [h.1 t u hu];rfl
 ·have hob:look (Qd7 b B.hp) p=some ob:=hob
  show look (Qd7 b σ.hp) p=some ob
  rw [Qij]at hob ⊢
  split at hob
  ·cases hob
  ·rename_i hne
   rw [if_neg hne]
   obtain⟨u,hu,rfl⟩:=Option.map_eq_some_iff.1 hob
   rw [h.2 p u hu];rfl
theorem Sub.killL : ∀{l:List Nat} {σ B:St},Sub σ B→Sub (σ.killL l) (B.killL l):=by
 intro l
 induction l with
 | nil=>intro σ B h;exact h
 | cons b l ih=>intro σ B h;exact ih (h.kill b)
theorem Sub.set {σ B:St}(h:Sub σ B)(o:Nat)(ob:Ob):Sub (σ.set o ob) (B.set o ob):=by
 refine⟨h.1,fun p u hu=>?_⟩
 by_cases e:p=o
 ·subst e;rw [St.look_set_same]at hu ⊢;exact hu
 ·rw [St.look_set_other _ _ (Ne.symm e)]at hu ⊢;exact h.2 p u hu
theorem Sub.sets : ∀{l:List (Nat×Ob)} {σ B:St},Sub σ B→Sub (σ.sets l) (B.sets l):=by
 intro l
 induction l with
 | nil=>intro σ B h;exact h
 | cons p l ih=>intro σ B h;exact(ih h).set p.1 p.2
theorem Sub.put {σ B:St}(h:Sub σ B)(d:Nat)(v:V):Sub (σ.put d v) (B.put d v):=by
 refine⟨fun t u hu=>?_,h.2⟩
 have hu:look ((d,v)::B.fr) t=some u:=hu
 show look ((d,v)::σ.fr) t=some u
 by_cases e:d=t
 ·subst e;rw [Qq]at hu ⊢;exact hu
 ·rw [Qn _ _ e]at hu ⊢;exact h.1 t u hu
theorem Sub.run {σ B:St}(h:Sub σ B)(M:Mut):Sub (M.run σ) (M.run B):=by
 unfold Mut.run
 split
 ·exact h.killL.sets
 ·exact h.killL.sets.put _ _
def Mut.keeps (M:Mut)(t:Nat)(v:V):Bool:=M.kills.all (fun b=>v.free b)&&(match M.put with | none=>true | some (d,_)=>!(Nat.beq d t))
def Mut.keepsO (M:Mut)(p:Nat):Bool:=M.kills.all (fun b=>!(Nat.beq b p))&&M.sets.all (fun q=>!(Nat.beq q.1 p))
def Ob.keep1 (b:Nat):Ob→Bool
 | .var cs=>cs.all (V.freeC b)
 | .lp _ _ cs _=>cs.all (V.freeC b)
 | _=>true
theorem Qs9 : ∀{l:List Nat} {σ:St} {t:Nat} {v:V},l.all (fun b=>v.free b)=true→look σ.fr t=some v→look (σ.killL l).fr t=some v:=by
 intro l
 induction l with
 | nil=>intro σ t v _ h;exact h
 | cons b l ih=>
  intro σ t v hl h
  rw [List.all_cons,Bool.and_eq_true]at hl
  refine ih hl.2 ?_
  show look (Qg8 b σ.fr) t=some v
  rw [Qkq,h,Option.map_some,V.kill,hl.1];rfl
theorem QqX : ∀{l:List (Nat×Ob)} {σ:St},(σ.sets l).fr=σ.fr:=by
 intro l
 induction l with
 | nil=>intro σ;rfl
 | cons p l ih=>intro σ;exact ih
theorem Mut.keeps_look {M:Mut}{σ:St}{t:Nat}{v:V}(hk:M.keeps t v=true)(h:look σ.fr t=some v):look (M.run σ).fr t=some v:=by
 unfold Mut.keeps at hk
 rw [Bool.and_eq_true]at hk
 have h1:look ((σ.killL M.kills).sets M.sets).fr t=some v:=by rw [QqX];exact Qs9 hk.1 h
 unfold Mut.run
 split
 ·exact h1
 ·rename_i d u hp
  rw [hp]at hk
  have hne:d≠t:=QgO hk.2
  show look ((d,u)::_) t=some v
  rw [Qn _ _ hne];exact h1
theorem QqY : ∀{l:List Nat} {σ:St} {p:Nat},look σ.hp p=none→look (σ.killL l).hp p=none:=by
 intro l
 induction l with
 | nil=>intro σ p h;exact h
 | cons b l ih=>
  intro σ p h
  refine ih ?_
  show look (Qd7 b σ.hp) p=none
  rw [Qij,h];simp
theorem Qsa : ∀{l:List (Nat×Ob)} {σ:St} {p:Nat},l.all (fun q=>!(Nat.beq q.1 p))=true→look σ.hp p=none→look (σ.sets l).hp p=none:=by
 intro l
 induction l with
 | nil=>intro σ p _ h;exact h
 | cons q l ih=>
  intro σ p hl h
  rw [List.all_cons,Bool.and_eq_true]at hl
  show look ((σ.sets l).set q.1 q.2).hp p=none
  rw [St.look_set_other _ _ (QgO hl.1)];exact ih hl.2 h
theorem Mut.none_look {M:Mut}{σ:St}{p:Nat}(hk:M.sets.all (fun q=>!(Nat.beq q.1 p))=true)(h:look σ.hp p=none):look (M.run σ).hp p=none:=by
 have h1:look ((σ.killL M.kills).sets M.sets).hp p=none:=Qsa hk (QqY h)
 unfold Mut.run
 split<;>exact h1
theorem Ob.kill_keep {ob:Ob}{b:Nat}(h:ob.keep1 b=true):ob.kill b=ob:=by
 cases ob with
 | var cs=>
  simp only [Ob.keep1,List.all_eq_true]at h
  simp only [Ob.kill,Ob.var.injEq]
  conv=>rhs;rw [←List.map_id cs]
  apply List.map_congr_left
  intro v hv
  simp only [V.killC,h v hv,cond_true,id]
 | lp l K cs q=>
  simp only [Ob.keep1,List.all_eq_true]at h
  simp only [Ob.kill,Ob.lp.injEq,true_and,and_true]
  conv=>rhs;rw [←List.map_id cs]
  apply List.map_congr_left
  intro v hv
  simp only [V.killC,h v hv,cond_true,id]
 | _=>rfl
theorem QrB : ∀{l:List Nat} {σ:St} {p:Nat} {ob:Ob},l.all (fun b=>!(Nat.beq b p))=true→l.all (fun b=>ob.keep1 b)=true→look σ.hp p=some ob→look (σ.killL l).hp p=some ob:=by
 intro l
 induction l with
 | nil=>intro σ p ob _ _ h;exact h
 | cons b l ih=>
  intro σ p ob hl hp h
  rw [List.all_cons,Bool.and_eq_true]at hl hp
  refine ih hl.2 hp.2 ?_
  show look (Qd7 b σ.hp) p=some ob
  rw [Qij,if_neg (QgO hl.1).symm,h,Option.map_some,Ob.kill_keep hp.1]
theorem Qsb : ∀{l:List (Nat×Ob)} {σ:St} {p:Nat} {ob:Ob},l.all (fun q=>!(Nat.beq q.1 p))=true→look σ.hp p=some ob→look (σ.sets l).hp p=some ob:=by
 intro l
 induction l with
 | nil=>intro σ p ob _ h;exact h
 | cons q l ih=>
  intro σ p ob hl h
  rw [List.all_cons,Bool.and_eq_true]at hl
  show look ((σ.sets l).set q.1 q.2).hp p=some ob
  rw [St.look_set_other _ _ (QgO hl.1)];exact ih hl.2 h
theorem Mut.keepsO_look {M:Mut}{σ:St}{p:Nat}{ob:Ob}(hk:M.keepsO p=true)(hp:M.kills.all (fun b=>ob.keep1 b)=true)(h:look σ.hp p=some ob):look (M.run σ).hp p=some ob:=by
 unfold Mut.keepsO at hk
 rw [Bool.and_eq_true]at hk
 have h1:look ((σ.killL M.kills).sets M.sets).hp p=some ob:=Qsb hk.2 (QrB hk.1 hp h)
 unfold Mut.run
 split<;>exact h1
section
variable {P:Program}{C:Ctx}{Q:Exit→St→Prop}{ops:Array Oper}{σ:St}{ks:List Fr}
theorem QtH (Inv:Array Bool→St→Prop)
  (step:∀listed σ i o,listed.size=ops.size→Down ops listed→i∈Region.ready .any ops listed→ops[i]? = some o→Inv listed σ→∃σ',QaW P C ops o σ σ'∧Inv (listed.setIfInBounds i true) σ')
  (hord:ordB ops=true) (hend:∀listed σ,listed.size=ops.size→(∀i,i<ops.size→listed[i]? = some true)→Inv listed σ→∀a w,R C σ a w→up C Q .normal a w):
  ∀(fuel:Nat) (listed:Array Bool) (a:Act) (w:World) (σ:St),((List.range ops.size).filter fun i=>!(listed[i]? == some true)).length≤fuel→listed.size=ops.size→Down ops listed→Inv listed σ→R C σ a w→wpAnyIn C.F 0 P .any ops (up C Q) fuel listed a w:=by
 intro fuel
 have allOf:∀{listed:Array Bool},listed.size=ops.size→Region.ready .any ops listed=[]→∀i,i<ops.size→listed[i]? = some true:=by
  intro listed hs hr
  apply Classical.byContradiction
  intro h
  have hex:∃i,i<ops.size∧listed[i]? ≠ some true:=by
   apply Classical.byContradiction
   intro h'
   exact h fun i hi=>Classical.byContradiction fun hn=>h' ⟨i,hi,hn⟩
  obtain⟨k,h1,h2,h3⟩:=Qr0 ops.size hex
  have:=Qsz hord hs h1 h2 h3
  rw [hr]at this;cases this
 induction fuel with
 | zero=>
  intro listed a w σ hf hs hd hI hR
  have hall:∀i,i<ops.size→listed[i]? = some true:=fun i hi=>by
   have:=List.length_eq_zero_iff.1 (Nat.le_zero.1 hf)
   rw [List.filter_eq_nil_iff]at this
   simpa using this i (List.mem_range.2 hi)
  refine⟨?_,hend listed σ hs hall hI a w hR⟩
  rw [List.eq_nil_iff_forall_not_mem]
  intro i hi
  obtain⟨o,ho,hl,_⟩:=(Qjq hs).1 hi
  rw [hall i (Array.getElem?_eq_some_iff.1 ho).1]at hl;cases hl
 | succ fuel ih=>
  intro listed a w σ hf hs hd hI hR
  refine⟨fun hr=>hend listed σ hs (allOf hs hr) hI a w hR,fun i hi=>?_⟩
  obtain⟨o,ho,hl,hdeps⟩:=(Qjq hs).1 hi
  obtain⟨σ',hos,hI'⟩:=step listed σ i o hs hd hi ho hI
  have hin:i<listed.size:=by rw [hs];exact(Array.getElem?_eq_some_iff.1 ho).1
  have next:∀a' w',R C σ' a' w'→wpAnyIn C.F 0 P .any ops (up C Q) fuel (listed.setIfInBounds i true) a' w':=fun a' w' hR'=>by
   refine ih _ a' w' σ' ?_ (by simpa using hs) (hd.set hs hi) hI' hR'
   have count:∀(l:List Nat),i∈l→(l.filter fun j=>!((listed.setIfInBounds i true)[j]? == some true)).length+1≤(l.filter fun j=>!(listed[j]? == some true)).length:=by
    intro l
    have le:∀(l:List Nat),(l.filter fun j=>!((listed.setIfInBounds i true)[j]? == some true)).length≤(l.filter fun j=>!(listed[j]? == some true)).length:=by
     intro l
     induction l with
     | nil=>simp
     | cons x l ihl=>
      by_cases e:i=x
      ·subst e
       rw [List.filter_cons_of_neg (by simp [Array.getElem?_setIfInBounds,hin]),List.filter_cons_of_pos (by rw [hl];simp)]
       simp;omega
      ·simp only [List.filter_cons,Array.getElem?_setIfInBounds_ne e]
       split
       ·simpa using ihl
       ·exact ihl
    induction l with
    | nil=>intro h;cases h
    | cons x l ihl=>
     intro hm
     by_cases e:i=x
     ·subst e
      rw [List.filter_cons_of_neg (by simp [Array.getElem?_setIfInBounds,hin]),List.filter_cons_of_pos (by rw [hl];simp)]
      have:=le l
      simp;omega
     ·have hm':i∈l:=by
       rcases List.mem_cons.1 hm with h | h
       ·exact absurd h e
       ·exact h
      have:=ihl hm'
      simp only [List.filter_cons,Array.getElem?_setIfInBounds_ne e]
      split
      ·simpa using this
      ·exact this
   have:=count (List.range ops.size) (List.mem_range.2 (by rw [←hs];exact hin))
   omega
  unfold wpOpIn
  simp only [ho]
  have:=hos a w hR (wpAnyIn C.F 0 P .any ops (up C Q) fuel (listed.setIfInBounds i true)) (up C Q) next
  split
  ·rename_i hw;rw [if_pos hw]at this;exact this
  ·rename_i hw;rw [if_neg hw]at this;exact⟨fun _ _=>trivial,this⟩
theorem AK.regionInv {id:Nat}(Inv:Array Bool→St→Prop)(hmix:P.follows .mixedOrders=true)
  (step:∀listed σ i o,listed.size=ops.size→Down ops listed→i∈Region.ready .any ops listed→ops[i]? = some o→Inv listed σ→∃σ',QaW P C ops o σ σ'∧Inv (listed.setIfInBounds i true) σ')
  (hord:ordB ops=true) (h0:Inv (Array.replicate ops.size false) σ) (hend:∀listed σ',listed.size=ops.size→(∀i,i<ops.size→listed[i]? = some true)→Inv listed σ'→AK P C Q (.x .normal) ks σ'):AK P C Q (.c (.region id ops true)) ks σ:=by
 intro a w hR
 refine wpIn_region_any hmix ?_
 have hR':R C σ a { w with drawn:=w.drawn+1 }:=by
  obtain⟨φ,hr⟩:=hR
  exact⟨φ,hr.step rfl rfl rfl (Nat.le_refl _) (fun _ _=>rfl)⟩
 refine QtH Inv step hord (fun listed σ' hs hall hI a w hR=>hend listed σ' hs hall hI a w hR) ops.size (Array.replicate ops.size false) a _ σ ?_ (by simp) ?_ h0 hR'
 ·exact Nat.le_trans (List.length_filter_le _ _) (by simp)
 ·intro i o _ h
  simp [Array.getElem?_replicate]at h
end
inductive It where
 | add (x:DF) (fl nf:Bool)
 | tn (M:Mut)
def QJ : List It→List Mut
 | []=>[]
 | .add _ _ _::r=>QJ r
 | .tn M::r=>M::QJ r
def bof (base:St):List Mut→St
 | []=>base
 | M::r=>bof (M.run base) r
def QrS (x:DF)(M:Mut):Bool:=match x.ob with | none=>true | some ob=>M.keepsO x.d&&M.kills.all (fun b=>ob.keep1 b)
def QrT (x:DF)(M:Mut):Bool:=M.keeps x.d x.v&&QrS x M
def alv (x:DF)(fl:Bool)(ms:List Mut):Bool:=fl||ms.all (fun M=>M.keeps x.d x.v)
def alvO (x:DF)(fl:Bool)(ms:List Mut):Bool:=fl||ms.all (QrS x)
def hasV (σ:St)(x:DF)(fl:Bool)(ms:List Mut):Prop:=(alv x fl ms=true→look σ.fr x.d=some x.v)∧(alvO x fl ms=true→∀ob,x.ob=some ob→look σ.hp x.d=some ob)
def QhG (ops:Array Oper):Nat→Nat→Nat→Bool
 | 0,_,_=>false
 | n+1,i,k=>match ops[k]? with
  | some o=>depB o i||o.after.toList.any fun e=>Region.binds .any e&&QhG ops n i e.on
  | none=>false
def Qql (its:List It)(p:Nat):Bool:=match its[p]? with
 | some (.tn _)=>true
 | _=>false
def ordV (ops:Array Oper)(its:List It):Bool:=(List.range its.length).all fun i=>(List.range its.length).all fun p=>!(Qql its p)||Nat.beq p i ||
 (match its[i]? with | some (.add _ true false)=>true | some _=>bif Nat.ble (p+1) i then QhG ops 8 p i else QhG ops 8 i p | none=>true)
def QlC : List It→List Nat
 | []=>[]
 | .add x _ _::r=>x.d::QlC r
 | .tn _::r=>QlC r
def QhU : List Mut→List Nat
 | []=>[]
 | M::r=>match M.put with
  | some (d,_)=>d::QhU r
  | none=>QhU r
def Qsc : List Mut→List Nat
 | []=>[]
 | M::r=>M.sets.map Prod.fst++Qsc r
def Qnh : List It→List Nat
 | []=>[]
 | .add x _ _::r=>match x.ob with
  | some _=>x.d::Qnh r
  | none=>Qnh r
 | .tn _::r=>Qnh r
def QmK (ms:List Mut):List It→Bool
 | []=>true
 | .add x fl _::r=>(!fl||ms.all (QrT x))&&QmK ms r
 | .tn _::r=>QmK ms r
def Qoj (ms:List Mut)(S:St):Bool:=S.fr.all (fun p=>ms.all fun M=>M.keeps p.1 p.2)&&S.hp.all (fun p=>ms.all fun M=>M.keepsO p.1&&M.kills.all (fun b=>p.2.keep1 b))
def Qsd (base:St)(its:List It):Bool:=Qgk (QlC its)&&(QlC its).all (fun d=>!(memB (keys base.fr) d)&&!(memB (QhU (QJ its)) d)) &&
 (Qnh its).all (fun d=>!(memB (keys base.hp) d))
def Qta (ops:Array Oper)(its:List It):Bool:=(List.range its.length).all fun i=>(List.range its.length).all fun p=>match its[i]? with
 | some (.add x _ _)=>match its[p]? with
  | some (.tn M)=>x.ob.isNone||!(memB (M.sets.map Prod.fst) x.d)||QhG ops 8 i p
  | _=>true
 | _=>true
section
variable {P:Program}{C:Ctx}{Q:Exit→St→Prop}{ops:Array Oper}{ks:List Fr}{base S:St}{its:List It}
def j0 (its:List It)(k:Nat):Nat:=(QJ (its.take k)).length
def QmL (P:Program)(C:Ctx)(ops:Array Oper)(base S:St)(its:List It)(i:Nat)(o:Oper):It→Prop
 | .add x fl nf=>match fl&&!nf with
  | false=>∀σ,Sub σ (bof base ((QJ its).take (j0 its i)))→(∀k y fl nf,its[k]? = some (.add y fl nf)→depB o k=true→hasV σ y fl (((QJ its).take (j0 its i)).drop (j0 its k)))→(x.ob.isSome=true→look σ.hp x.d=none)→QaW P C ops o σ (σ.addF x)
  | true=>∀σ,Sub σ S→(∀k y nf,its[k]? = some (.add y true nf)→depB o k=true→hasF σ y)→(x.ob.isSome=true→look σ.hp x.d=none)→QaW P C ops o σ (σ.addF x)
 | .tn M=>∀σ,Sub σ (bof base ((QJ its).take (j0 its i)))→(∀k y fl nf,its[k]? = some (.add y fl nf)→depB o k=true→hasV σ y fl (((QJ its).take (j0 its i)).drop (j0 its k)))→QaW P C ops o σ (M.run σ)
theorem QhV {listed:Array Bool}(hd:Down ops listed):∀(n:Nat) {i k:Nat},QhG ops n i k=true→listed[k]? = some true→listed[i]? = some true:=by
 intro n
 induction n with
 | zero=>intro i k h;cases h
 | succ n ih=>
  intro i k h hk
  rw [QhG]at h
  split at h
  ·rename_i o ho
   rw [Bool.or_eq_true]at h
   rcases h with h | h
   ·simp only [depB,List.any_eq_true,Bool.and_eq_true]at h
    obtain⟨e,he,hb,hon⟩:=h
    have:=hd k o ho hk e (Array.mem_toList_iff.1 he) hb
    rwa [Nat.eq_of_beq_eq_true hon]at this
   ·simp only [List.any_eq_true,Bool.and_eq_true]at h
    obtain⟨e,he,hb,hm⟩:=h
    exact ih hm (hd k o ho hk e (Array.mem_toList_iff.1 he) hb)
  ·cases h
theorem QpA {listed:Array Bool}(hs:listed.size=ops.size)(hd:Down ops listed){n i k:Nat}(h:QhG ops n i k=true)(hk:k∈Region.ready .any ops listed):listed[i]? = some true:=by
 obtain⟨o,ho,hl,hdeps⟩:=(Qjq hs).1 hk
 cases n with
 | zero=>cases h
 | succ n=>
  rw [QhG,ho]at h
  dsimp only at h
  rw [Bool.or_eq_true]at h
  rcases h with h | h
  ·simp only [depB,List.any_eq_true,Bool.and_eq_true]at h
   obtain⟨e,he,hb,hon⟩:=h
   have:=hdeps e (Array.mem_toList_iff.1 he) hb
   rwa [Nat.eq_of_beq_eq_true hon]at this
  ·simp only [List.any_eq_true,Bool.and_eq_true]at h
   obtain⟨e,he,hb,hm⟩:=h
   exact QhV hd n hm (hdeps e (Array.mem_toList_iff.1 he) hb)
theorem Qfp : ∀{l m:List It},QJ (l++m)=QJ l++QJ m:=by
 intro l
 induction l with
 | nil=>intro m;rfl
 | cons x l ih=>intro m;cases x<;>simp [QJ,ih]
theorem Qqm {ms ns:List Mut}:∀{B:St},bof B (ms++ns)=bof (bof B ms) ns:=by
 induction ms with
 | nil=>intro B;rfl
 | cons M ms ih=>intro B;exact ih
theorem Qtb {its:List It}{i:Nat}{M:Mut}(h:its[i]? = some (.tn M)):(QJ its)[j0 its i]? = some M∧(QJ its).take (j0 its i+1)=(QJ its).take (j0 its i)++[M]:=by
 have hlt:=(List.getElem?_eq_some_iff.1 h).1
 have e:its=its.take i++(.tn M::its.drop (i+1)):=by
  have:its.drop i=its[i]::its.drop (i+1):=List.drop_eq_getElem_cons hlt
  have h2:its[i]=.tn M:=by have:=List.getElem?_eq_getElem hlt;rw [h]at this;exact(Option.some.inj this).symm
  rw [h2]at this
  rw [←this,List.take_append_drop]
 have e2:QJ its=QJ (its.take i)++(M::QJ (its.drop (i+1))):=by
  conv=>lhs;rw [e]
  rw [Qfp];rfl
 unfold j0
 rw [e2]
 refine⟨by simp,?_⟩
 rw [List.take_append,List.take_append]
 simp [List.take_of_length_le]
theorem Qtc {σ:St}{x:DF}{M:Mut}(hk:QrT x M=true)(h:hasF σ x):hasF (M.run σ) x:=by
 unfold QrT QrS at hk
 rw [Bool.and_eq_true]at hk
 refine⟨Mut.keeps_look hk.1 h.1,fun ob hob=>?_⟩
 rw [hob]at hk
 have hk2:=hk.2
 dsimp only at hk2
 rw [Bool.and_eq_true]at hk2
 exact Mut.keepsO_look hk2.1 hk2.2 (h.2 ob hob)
theorem hasV.of {σ:St}{x:DF}{fl:Bool}{ms:List Mut}(h:hasF σ x):hasV σ x fl ms:=⟨fun _=>h.1,fun _=>h.2⟩
theorem hasV.run {σ:St}{x:DF}{ms:List Mut}{M:Mut}(h:hasV σ x false ms):hasV (M.run σ) x false (ms++[M]):=by
 refine⟨fun hal=>?_,fun hal ob hob=>?_⟩
 ·simp only [alv,Bool.false_or,List.all_append,Bool.and_eq_true,List.all_cons,List.all_nil,Bool.and_true]at hal
  exact Mut.keeps_look hal.2 (h.1 (by simp only [alv,Bool.false_or];exact hal.1))
 ·simp only [alvO,Bool.false_or,List.all_append,Bool.and_eq_true,List.all_cons,List.all_nil,Bool.and_true]at hal
  have h1:=h.2 (by simp only [alvO,Bool.false_or];exact hal.1) ob hob
  have hk:=hal.2
  unfold QrS at hk
  rw [hob]at hk
  dsimp only at hk
  rw [Bool.and_eq_true]at hk
  exact Mut.keepsO_look hk.1 hk.2 h1
theorem Qvi {p:Nat}{M:Mut}(h:its[p]? = some (.tn M)):j0 its (p+1)=j0 its p+1:=by
 have hlt:=(List.getElem?_eq_some_iff.1 h).1
 unfold j0
 rw [List.take_add_one,h,Qfp];simp [QJ]
theorem QrU : ∀{a b:Nat},a≤b→j0 its a≤j0 its b:=by
 intro a b h
 unfold j0
 obtain⟨c,rfl⟩:=Nat.exists_eq_add_of_le h
 rw [List.take_add,Qfp];simp
theorem Qtd {p i:Nat}{M:Mut}(h:its[p]? = some (.tn M))(hpi:p<i):j0 its p<j0 its i:=by
 have:=Qvi h
 have:=QrU (its:=its) (show p+1≤i from hpi)
 omega
theorem QoZ : ∀{its:List It} {c:Nat},c<(QJ its).length→∃p M,its[p]? = some (.tn M)∧j0 its p=c:=by
 intro its
 induction its with
 | nil=>intro c h;simp [QJ]at h
 | cons it its ih=>
  intro c h
  cases it with
  | add x fl=>
   obtain⟨p,M,h1,h2⟩:=ih (c:=c) h
   exact⟨p+1,M,by simpa using h1,by simpa [j0,QJ] using h2⟩
  | tn M=>
   cases c with
   | zero=>exact⟨0,M,rfl,by simp [j0,QJ]⟩
   | succ c=>
    obtain⟨p,M',h1,h2⟩:=ih (c:=c) (by simpa [QJ] using h)
    exact⟨p+1,M',by simpa using h1,by simpa [j0,QJ] using h2⟩
theorem Qse {p:Nat}{M:Mut}(h:its[p]? = some (.tn M)):j0 its p<(QJ its).length:=(List.getElem?_eq_some_iff.1 (Qtb h).1).1
theorem Sub.stable : ∀{ms:List Mut} {B S:St},Qoj ms S=true→Sub B S→∀n,Sub (bof B (ms.take n)) S:=by
 intro ms
 induction ms with
 | nil=>intro B S _ h n;simpa [bof] using h
 | cons M ms ih=>
  intro B S hk h n
  cases n with
  | zero=>exact h
  | succ n=>
   unfold Qoj at hk
   rw [Bool.and_eq_true,List.all_eq_true,List.all_eq_true]at hk
   refine ih (B:=M.run B) ?_ ⟨fun t v hv=>?_,fun p ob hob=>?_⟩ n
   ·unfold Qoj
    rw [Bool.and_eq_true,List.all_eq_true,List.all_eq_true]
    exact⟨fun p hp=>by have:=hk.1 p hp;rw [List.all_cons,Bool.and_eq_true]at this;exact this.2,fun p hp=>by have:=hk.2 p hp;rw [List.all_cons,Bool.and_eq_true]at this;exact this.2⟩
   ·have:=hk.1 (t,v) (QaH hv)
    rw [List.all_cons,Bool.and_eq_true]at this
    exact Mut.keeps_look this.1 (h.1 t v hv)
   ·have:=hk.2 (p,ob) (QaH hob)
    rw [List.all_cons,Bool.and_eq_true,Bool.and_eq_true]at this
    exact Mut.keepsO_look this.1.1 this.1.2 (h.2 p ob hob)
theorem Qni : ∀{its:List It} {i:Nat} {x:DF} {fl nf:Bool},its[i]? = some (.add x fl nf)→x.d∈QlC its∧(x.ob.isSome=true→x.d∈Qnh its):=by
 intro its
 induction its with
 | nil=>intro i x fl nf h;simp at h
 | cons it its ih=>
  intro i x fl nf h
  cases i with
  | zero=>
   simp at h;subst h
   refine⟨List.mem_cons_self,fun hs=>?_⟩
   rw [Qnh];split
   ·exact List.mem_cons_self
   ·rename_i he;rw [he]at hs;cases hs
  | succ i=>
   obtain⟨a,b⟩:=ih (i:=i) (by simpa using h)
   cases it with
   | add y fl' nf'=>
    refine⟨List.mem_cons_of_mem _ a,fun hs=>?_⟩
    rw [Qnh];split
    ·exact List.mem_cons_of_mem _ (b hs)
    ·exact b hs
   | tn M=>exact⟨a,b⟩
theorem Qsf : ∀{its:List It},(QlC its).Nodup→∀{i k:Nat} {x y:DF} {fl fl' nf nf':Bool},its[i]? = some (.add x fl nf)→its[k]? = some (.add y fl' nf')→x.d=y.d→i=k:=by
 intro its
 induction its with
 | nil=>intro _ i k x y fl fl' nf nf' h;simp at h
 | cons it its ih=>
  intro hn i k x y fl fl' nf nf' hi hk e
  cases it with
  | tn M=>
   cases i with
   | zero=>simp at hi
   | succ i=>cases k with
    | zero=>simp at hk
    | succ k=>rw [ih hn (i:=i) (k:=k) (by simpa using hi) (by simpa using hk) e]
  | add z f g=>
   rw [QlC,List.nodup_cons]at hn
   cases i with
   | zero=>
    cases k with
    | zero=>rfl
    | succ k=>
     simp at hi;obtain⟨rfl,rfl,rfl⟩:=hi
     exact absurd (by rw [e];exact(Qni (i:=k) (by simpa using hk)).1) hn.1
   | succ i=>
    cases k with
    | zero=>
     simp at hk;obtain⟨rfl,rfl,rfl⟩:=hk
     exact absurd (by rw [←e];exact(Qni (i:=i) (by simpa using hi)).1) hn.1
    | succ k=>rw [ih hn.2 (i:=i) (k:=k) (by simpa using hi) (by simpa using hk) e]
theorem Qum {M:Mut}{B:St}{t:Nat}{v:V}(h:look (M.run B).fr t=some v):(∃u,look B.fr t=some u)∨∃u,M.put=some (t,u):=by
 have kill:∀{l:List Nat} {B:St} {v:V},look (B.killL l).fr t=some v→∃u,look B.fr t=some u:=by
  intro l
  induction l with
  | nil=>intro B v h;exact⟨v,h⟩
  | cons b l ih=>
   intro B v h
   obtain⟨u,hu⟩:=ih h
   have hu:look (Qg8 b B.fr) t=some u:=hu
   rw [Qkq]at hu
   obtain⟨w,hw,_⟩:=Option.map_eq_some_iff.1 hu
   exact⟨w,hw⟩
 unfold Mut.run at h
 split at h
 ·rw [QqX]at h;exact .inl (kill h)
 ·rename_i d u hp
  by_cases e:d=t
  ·subst e;exact .inr ⟨u,hp⟩
  ·have h:look ((d,u)::((B.killL M.kills).sets M.sets).fr) t=some v:=h
   rw [Qn _ _ e,QqX]at h;exact .inl (kill h)
theorem QtI {M:Mut}{B:St}{p:Nat}{ob:Ob}(h:look (M.run B).hp p=some ob):(∃u,look B.hp p=some u)∨p∈M.sets.map Prod.fst:=by
 have kill:∀{l:List Nat} {B:St} {ob:Ob},look (B.killL l).hp p=some ob→∃u,look B.hp p=some u:=by
  intro l
  induction l with
  | nil=>intro B ob h;exact⟨ob,h⟩
  | cons b l ih=>
   intro B ob h
   obtain⟨u,hu⟩:=ih h
   have hu:look (Qd7 b B.hp) p=some u:=hu
   rw [Qij]at hu
   split at hu
   ·cases hu
   ·obtain⟨w,hw,_⟩:=Option.map_eq_some_iff.1 hu
    exact⟨w,hw⟩
 have sets:∀{l:List (Nat×Ob)} {B:St} {ob:Ob},look (B.sets l).hp p=some ob→(∃u,look B.hp p=some u)∨p∈l.map Prod.fst:=by
  intro l
  induction l with
  | nil=>intro B ob h;exact .inl ⟨ob,h⟩
  | cons q l ih=>
   intro B ob h
   by_cases e:q.1=p
   ·exact .inr (by rw [List.map_cons,e];exact List.mem_cons_self)
   ·have h:look ((B.sets l).set q.1 q.2).hp p=some ob:=h
    rw [St.look_set_other _ _ e]at h
    exact(ih h).imp id (List.mem_cons_of_mem _)
 have h1:look ((B.killL M.kills).sets M.sets).hp p=some ob:=by
  unfold Mut.run at h
  split at h<;>exact h
 rcases sets h1 with⟨u,hu⟩|h2
 ·exact .inl (kill hu)
 ·exact .inr h2
theorem Qun : ∀{ms:List Mut} {B:St} {t:Nat} {v:V},look (bof B ms).fr t=some v→(∃u,look B.fr t=some u)∨t∈QhU ms:=by
 intro ms
 induction ms with
 | nil=>intro B t v h;exact .inl ⟨v,h⟩
 | cons M ms ih=>
  intro B t v h
  rcases ih h with⟨u,hu⟩|h
  ·rcases Qum hu with h | ⟨u,hp⟩
   ·exact .inl h
   ·refine .inr ?_;rw [QhU,hp];exact List.mem_cons_self
  ·refine .inr ?_;rw [QhU];split
   ·exact List.mem_cons_of_mem _ h
   ·exact h
theorem QtJ : ∀{ms:List Mut} {B:St} {p:Nat} {ob:Ob},look (bof B ms).hp p=some ob→(∃u,look B.hp p=some u)∨p∈Qsc ms:=by
 intro ms
 induction ms with
 | nil=>intro B p ob h;exact .inl ⟨ob,h⟩
 | cons M ms ih=>
  intro B p ob h
  rcases ih h with⟨u,hu⟩|h
  ·rcases QtI hu with h | h
   ·exact .inl h
   ·exact .inr (List.mem_append_left _ h)
  ·exact .inr (List.mem_append_right _ h)
theorem QsD : ∀{ms:List Mut} {n t:Nat},t∈QhU (ms.take n)→t∈QhU ms:=by
 intro ms
 induction ms with
 | nil=>intro n t h;simpa using h
 | cons M ms ih=>
  intro n t h
  cases n with
  | zero=>simp [QhU]at h
  | succ n=>
   rw [List.take_succ_cons,QhU]at h
   rw [QhU]
   split at h
   ·rcases List.mem_cons.1 h with rfl | h
    ·exact List.mem_cons_self
    ·exact List.mem_cons_of_mem _ (ih h)
   ·exact ih h
def InvV (base:St)(its:List It)(listed:Array Bool)(σ:St):Prop:=∃j,j≤(QJ its).length∧(∀p M,its[p]? = some (.tn M)→(listed[p]? = some true↔j0 its p<j))∧Sub σ (bof base ((QJ its).take j))∧
 ∀i x fl nf,its[i]? = some (.add x fl nf)→(listed[i]? = some true→hasV σ x fl (((QJ its).take j).drop (j0 its i)))∧(listed[i]? ≠ some true→x.ob.isSome=true→look σ.hp x.d=none)
def isFl (its:List It)(i:Nat):Bool:=match its[i]? with
 | some (.add _ true false)=>true
 | _=>false
def endB (ops:Array Oper)(its:List It)(p:Nat):Bool:=Qql its p&&Nat.beq (j0 its p+1) (QJ its).length&&(List.range its.length).all fun i=>!isFl its i||QhG ops 8 i p
def QqZ (ops:Array Oper)(its:List It)(ms:List Mut)(S:St):Bool:=Qoj ms S||(Qoj (ms.take (ms.length-1)) S&&(List.range its.length).any (endB ops its))
theorem AK.drawV {id:Nat}(hmix:P.follows .mixedOrders=true)(hlen:its.length=ops.size)(hord:ordB ops=true)(hov:ordV ops its=true)(hap:Qsd base its=true)(hsv:Qta ops its=true)(hfk:QmK (QJ its) its=true)(hsk:QqZ ops its (QJ its) S=true)(hS:Sub base S)
  (steps:∀i o it,ops[i]? = some o→its[i]? = some it→QmL P C ops base S its i o it)
  (k:∀σ,Sub σ (bof base (QJ its))→(∀i x fl nf,its[i]? = some (.add x fl nf)→hasV σ x fl ((QJ its).drop (j0 its i)))→AK P C Q (.x .normal) ks σ):AK P C Q (.c (.region id ops true)) ks base:=by
 simp only [Qsd,Bool.and_eq_true,List.all_eq_true,Bool.not_eq_true']at hap
 obtain⟨⟨hnd,hd1⟩,hd2⟩:=hap
 have hnd:=QbX.1 hnd
 have ord:∀i p it M,its[i]? = some it→its[p]? = some (.tn M)→p≠i→(∀x,it≠.add x true false)→(p<i→QhG ops 8 p i=true)∧(i<p→QhG ops 8 i p=true):=by
  intro i p it M hi hp hne hnf
  have hil:=(List.getElem?_eq_some_iff.1 hi).1
  have hpl:=(List.getElem?_eq_some_iff.1 hp).1
  unfold ordV at hov
  rw [List.all_eq_true]at hov
  have h1:=hov i (List.mem_range.2 hil)
  rw [List.all_eq_true]at h1
  have h2:=h1 p (List.mem_range.2 hpl)
  have hm:Qql its p=true:=by unfold Qql;rw [hp]
  have hb:Nat.beq p i=false:=by cases hb:Nat.beq p i with
   | true=>exact absurd (Nat.eq_of_beq_eq_true hb) hne
   | false=>rfl
  rw [hm,hb,hi]at h2
  simp only [Bool.not_true,Bool.false_or]at h2
  have h3:(bif Nat.ble (p+1) i then QhG ops 8 p i else QhG ops 8 i p)=true:=by
   cases it with
   | add x fl nf=>cases fl with
    | true=>cases nf with
     | false=>exact absurd rfl (hnf x)
     | true=>exact h2
    | false=>exact h2
   | tn M=>exact h2
  refine⟨fun h=>?_,fun h=>?_⟩
  ·rw [show Nat.ble (p+1) i=true from Nat.ble_eq_true_of_le h]at h3;exact h3
  ·have:Nat.ble (p+1) i=false:=by cases hc:Nat.ble (p+1) i with
    | true=>have:=Nat.le_of_ble_eq_true hc;omega
    | false=>rfl
   rw [this]at h3;exact h3
 have sets:∀(i p:Nat) (x:DF) (fl nf:Bool) (M:Mut),its[i]? = some (.add x fl nf)→its[p]? = some (.tn M)→x.ob.isSome=true→x.d∈M.sets.map Prod.fst→QhG ops 8 i p=true:=by
  intro i p x fl nf M hi hp hob hmem
  have hil:=(List.getElem?_eq_some_iff.1 hi).1
  have hpl:=(List.getElem?_eq_some_iff.1 hp).1
  unfold Qta at hsv
  rw [List.all_eq_true]at hsv
  have h1:=hsv i (List.mem_range.2 hil)
  rw [List.all_eq_true]at h1
  have h2:=h1 p (List.mem_range.2 hpl)
  rw [hi,hp]at h2
  dsimp only at h2
  rw [QhT.2 hmem]at h2
  have:x.ob.isNone=false:=by cases hx:x.ob with
   | none=>rw [hx]at hob;cases hob
   | some=>rfl
  rw [this]at h2
  simpa using h2
 have memSets:∀{ms:List Mut} {d:Nat},d∈Qsc ms→∃(c:Nat) (M:Mut),ms[c]? = some M∧d∈M.sets.map Prod.fst:=by
  intro ms
  induction ms with
  | nil=>intro d h;cases h
  | cons N ms ih=>
   intro d h
   rcases List.mem_append.1 h with h | h
   ·exact⟨0,N,rfl,h⟩
   ·obtain⟨c,M,h1,h2⟩:=ih h;exact⟨c+1,M,by simpa using h1,h2⟩
 refine AK.regionInv (InvV base its) hmix ?_ hord ?_ ?_
 ·intro listed σ i o hs hd hi ho ⟨j,hj,hmu,hsub,hadd⟩
  obtain⟨o',ho',hl,hdeps⟩:=(Qjq hs).1 hi
  rw [ho]at ho';cases ho'
  have hio:i<ops.size:=(Array.getElem?_eq_some_iff.1 ho).1
  have hil:i<its.length:=by omega
  have hin:i<listed.size:=by omega
  obtain⟨it,hit⟩:∃it,its[i]? = some it:=⟨_,List.getElem?_eq_getElem hil⟩
  have hnl:listed[i]? ≠ some true:=by rw [hl];simp
  have hst:=steps i o it ho hit
  have depsL:∀{q:Nat},depB o q=true→listed[q]? = some true:=fun hdep=>by
   simp only [depB,List.any_eq_true,Bool.and_eq_true]at hdep
   obtain⟨e,he,hb,hon⟩:=hdep
   have:=hdeps e (Array.mem_toList_iff.1 he) hb
   rwa [Nat.eq_of_beq_eq_true hon]at this
  have stage:(∀x,it≠.add x true false)→j=j0 its i:=by
   intro hnf
   apply Nat.le_antisymm
   ·rcases Nat.lt_or_ge (j0 its i) j with hlt | h
    ·obtain⟨p,M,hp,hpj⟩:=QoZ (its:=its) (c:=j0 its i) (by omega)
     have hpl:listed[p]? = some true:=(hmu p M hp).2 (by omega)
     rcases Nat.lt_trichotomy p i with h | h | h
     ·have:=Qtd hp h;omega
     ·subst h;exact absurd hpl hnl
     ·have hm:=(ord i p it M hit hp (by omega) hnf).2 h
      exact absurd (QhV hd 8 hm hpl) hnl
    ·exact h
   ·rcases Nat.eq_zero_or_pos (j0 its i)with h | h
    ·omega
    ·have hle:j0 its i≤(QJ its).length:=by
      have h1:=QrU (its:=its) (show i≤its.length by omega)
      have h2:j0 its its.length=(QJ its).length:=by unfold j0;rw [List.take_length]
      omega
     obtain⟨p,M,hp,hpj⟩:=QoZ (its:=its) (c:=j0 its i-1) (by omega)
     have hpi:p<i:=by
      rcases Nat.lt_trichotomy p i with h' | h' | h'
      ·exact h'
      ·subst h';omega
      ·have:=QrU (its:=its) (Nat.le_of_lt h');omega
     have hm:=(ord i p it M hit hp (by omega) hnf).1 hpi
     have:=(hmu p M hp).1 (QpA hs hd hm hi)
     omega
  have setL:∀q,(listed.setIfInBounds i true)[q]? = some true↔q=i∨listed[q]? = some true:=fun q=>by
   by_cases e:i=q
   ·subst e;simp [Array.getElem?_setIfInBounds,hin]
   ·rw [Array.getElem?_setIfInBounds_ne e];simp [Ne.symm e]
  cases it with
  | tn M=>
   have hjj:=stage fun x e=>by cases e
   subst hjj
   have hM:=Qtb hit
   have hos:QaW P C ops o σ (M.run σ):=hst σ hsub fun q y fl nf hq hdep=>(hadd q y fl nf hq).1 (depsL hdep)
   refine⟨_,hos,j0 its i+1,by have:=Qse hit;omega,fun p M' hp=>?_,?_,fun q y fl nf hq=>⟨fun hql=>?_,fun hql hob=>?_⟩⟩
   ·rw [setL]
    constructor
    ·rintro (rfl | h)
     ·omega
     ·have:=(hmu p M' hp).1 h;omega
    ·intro h
     rcases Nat.lt_or_ge (j0 its p) (j0 its i)with h1 | h1
     ·exact .inr ((hmu p M' hp).2 h1)
     ·left
      rcases Nat.lt_trichotomy p i with h' | h' | h'
      ·have:=Qtd hp h';omega
      ·exact h'
      ·have:=Qtd hit h';omega
   ·rw [hM.2,Qqm];exact hsub.run M
   ·rcases(setL q).1 hql with rfl | hql
    ·rw [hit]at hq;cases hq
    ·cases fl with
     | true=>
      have all:∀{l:List It} {ms:List Mut},QmK ms l=true→∀{q:Nat} {y:DF} {nf:Bool},l[q]? = some (.add y true nf)→ms.all (QrT y)=true:=by
       intro l
       induction l with
       | nil=>intro ms _ q y nf h;simp at h
       | cons it l ih=>
        intro ms h q y nf hq
        cases it with
        | add z f g=>
         rw [QmK,Bool.and_eq_true]at h
         cases q with
         | zero=>simp at hq;obtain⟨rfl,rfl,rfl⟩:=hq;simpa using h.1
         | succ q=>exact ih h.2 (by simpa using hq)
        | tn M=>
         cases q with
         | zero=>simp at hq
         | succ q=>exact ih h (by simpa using hq)
      have h1:=all hfk hq
      rw [List.all_eq_true]at h1
      have h2:=(hadd q y true nf hq).1 hql
      exact hasV.of (Qtc (h1 M (List.mem_of_getElem? hM.1)) ⟨h2.1 rfl,h2.2 rfl⟩)
     | false=>
      have hle:j0 its q≤j0 its i:=by
       rcases Nat.lt_or_ge i q with h | h
       ·have hm:=(ord q i _ M hq hit (by omega) (fun x e=>by cases e)).1 h
        exact absurd (QhV hd 8 hm hql) hnl
       ·exact QrU h
      rw [hM.2,List.drop_append_of_le_length (by simp;have:=Qse hit;omega)]
      exact((hadd q y false nf hq).1 hql).run
   ·have hqi:q≠i:=fun e=>by subst e;rw [hit]at hq;cases hq
    have hql':listed[q]? ≠ some true:=fun h=>hql ((setL q).2 (.inr h))
    refine Mut.none_look ?_ ((hadd q y fl nf hq).2 hql' hob)
    rw [List.all_eq_true]
    intro r hr
    cases hb:Nat.beq r.1 y.d with
    | false=>rfl
    | true=>
     have hm:=sets q i y fl nf M hq hit hob (by rw [←Nat.eq_of_beq_eq_true hb];exact List.mem_map_of_mem hr)
     exact absurd (QpA hs hd hm hi) hql'
  | add x fl nf=>
   have hfresh:x.ob.isSome=true→look σ.hp x.d=none:=(hadd i x fl nf hit).2 hnl
   have hos:QaW P C ops o σ (σ.addF x):=by
    have hB:¬(fl=true∧nf=false)→(∀σ,Sub σ (bof base ((QJ its).take (j0 its i)))→(∀k y fl nf,its[k]? = some (.add y fl nf)→depB o k=true→hasV σ y fl (((QJ its).take (j0 its i)).drop (j0 its k)))→(x.ob.isSome=true→look σ.hp x.d=none)→QaW P C ops o σ (σ.addF x))→QaW P C ops o σ (σ.addF x):=fun hne hst=>by
     have hjj:=stage fun y e=>by cases e;exact hne ⟨rfl,rfl⟩
     subst hjj
     exact hst σ hsub (fun q y fl nf hq hdep=>(hadd q y fl nf hq).1 (depsL hdep)) hfresh
    cases fl with
    | true=>cases nf with
     | false=>
      have h1:Sub base S:=hS
      have h2:Sub (bof base ((QJ its).take j)) S:=by
       unfold QqZ at hsk
       rw [Bool.or_eq_true]at hsk
       rcases hsk with hsk | hsk
       ·exact Sub.stable hsk h1 j
       ·rw [Bool.and_eq_true,List.any_eq_true]at hsk
        obtain⟨hs1,p,_,hp⟩:=hsk
        unfold endB at hp
        simp only [Bool.and_eq_true]at hp
        obtain⟨⟨p1,p2⟩,p3⟩:=hp
        have hjm:j≤(QJ its).length-1:=by
         rcases Nat.lt_or_ge ((QJ its).length-1) j with hlt | h
         ·exfalso
          obtain⟨M,hM⟩:∃M,its[p]? = some (.tn M):=by
           unfold Qql at p1
           split at p1
           ·exact⟨_,‹_›⟩
           ·cases p1
          have p2:=Nat.eq_of_beq_eq_true p2
          have hpl:=(hmu p M hM).2 (by omega)
          have h3:=List.all_eq_true.1 p3 i (List.mem_range.2 hil)
          have hf:isFl its i=true:=by unfold isFl;rw [hit]
          rw [hf]at h3
          exact absurd (QhV hd 8 h3 hpl) hnl
         ·exact h
        have h4:=Sub.stable hs1 h1 j
        rwa [List.take_take,Nat.min_eq_left hjm]at h4
      exact hst σ ⟨fun t v h=>hsub.1 t v (h2.1 t v h),fun p ob h=>hsub.2 p ob (h2.2 p ob h)⟩ (fun q y nf hq hdep=>let h2:=(hadd q y true nf hq).1 (depsL hdep);⟨h2.1 rfl,h2.2 rfl⟩) hfresh
     | true=>exact hB (fun e=>by cases e.2) hst
    | false=>exact hB (fun e=>by cases e.1) hst
   obtain⟨hmd,hmo⟩:=Qni hit
   have frK:∀t v,t≠x.d→look σ.fr t=some v→look (σ.addF x).fr t=some v:=by
    intro t v hne h
    unfold St.addF
    split
    ·show look ((x.d,x.v)::σ.fr) t=some v
     rw [Qn _ _ (Ne.symm hne)];exact h
    ·show look ((x.d,x.v)::σ.fr) t=some v
     rw [Qn _ _ (Ne.symm hne)];exact h
   have hpK:∀p,(p≠x.d∨x.ob=none)→look (σ.addF x).hp p=look σ.hp p:=by
    intro p hne
    unfold St.addF
    split
    ·rfl
    ·rename_i ob hob
     rcases hne with hne | hne
     ·exact σ.look_set_other _ (Ne.symm hne)
     ·rw [hob]at hne;cases hne
   refine⟨_,hos,j,hj,fun p M hp=>?_,⟨fun t v h=>?_,fun p ob h=>?_⟩,fun q y fl' nf' hq=>⟨fun hql=>?_,fun hql hob=>?_⟩⟩
   ·rw [setL,←hmu p M hp]
    have:p≠i:=fun e=>by subst e;rw [hit]at hp;cases hp
    simp [this]
   ·refine frK t v (fun e=>?_) (hsub.1 t v h)
    subst e
    have h1:=hd1 _ hmd
    rcases Qun h with⟨u,hu⟩|h2
    ·rw [Qlz hu]at h1;cases h1.1
    ·rw [QhT.2 (QsD h2)]at h1;cases h1.2
   ·have hne:p≠x.d∨x.ob=none:=by
     cases hob:x.ob with
     | none=>exact .inr rfl
     | some ob'=>
      refine .inl fun e=>?_
      subst e
      have hob':x.ob.isSome=true:=by rw [hob];rfl
      have h1:=hd2 _ (hmo hob')
      rcases QtJ h with⟨u,hu⟩|h2
      ·rw [Qlz hu]at h1;cases h1
      ·obtain⟨c,M,h3,h4⟩:=memSets h2
       have hc:c<j:=by
        have:=(List.getElem?_eq_some_iff.1 h3).1
        simp at this;omega
       have h3':(QJ its)[c]? = some M:=by rw [List.getElem?_take_of_lt hc]at h3;exact h3
       obtain⟨p',M',hp',hpc⟩:=QoZ (its:=its) (c:=c) (List.getElem?_eq_some_iff.1 h3').1
       have h5:=(Qtb hp').1
       rw [hpc,h3']at h5;cases h5
       have hm:=sets i p' x fl nf M hit hp' hob' h4
       exact absurd (QhV hd 8 hm ((hmu p' M hp').2 (by omega))) hnl
    rw [hpK p hne];exact hsub.2 p ob h
   ·by_cases e:q=i
    ·subst e
     rw [hit]at hq;cases hq
     refine hasV.of ⟨?_,fun ob hob=>?_⟩
     ·unfold St.addF
      split<;>exact Qq _ _ _
     ·unfold St.addF
      rw [hob];exact Qq _ _ _
    ·have hql':listed[q]? = some true:=((setL q).1 hql).resolve_left e
     obtain⟨h1,h2⟩:=(hadd q y fl' nf' hq).1 hql'
     have hne:y.d≠x.d:=fun h=>e (Qsf hnd hq hit h)
     exact⟨fun hal=>frK _ _ hne (h1 hal),fun hal ob hob=>by rw [hpK _ (.inl hne)];exact h2 hal ob hob⟩
   ·have e:q≠i:=fun e=>hql ((setL q).2 (.inl e))
    have hql':listed[q]? ≠ some true:=fun h=>hql ((setL q).2 (.inr h))
    have hne:y.d≠x.d:=fun h=>e (Qsf hnd hq hit h)
    rw [hpK _ (.inl hne)];exact(hadd q y fl' nf' hq).2 hql' hob
 ·refine⟨0,Nat.zero_le _,fun p M _=>by simp [Array.getElem?_replicate],⟨fun _ _ h=>h,fun _ _ h=>h⟩,fun i x fl nf hi=>⟨fun h=>by simp [Array.getElem?_replicate]at h,fun _ hob=>?_⟩⟩
  have h1:=hd2 _ ((Qni hi).2 hob)
  cases h:look base.hp x.d with
  | none=>rfl
  | some ob=>rw [Qlz h]at h1;cases h1
 ·intro listed σ hs hall ⟨j,hj,hmu,hsub,hadd⟩
  have hjt:j=(QJ its).length:=by
   rcases Nat.lt_or_ge j (QJ its).length with h | h
   ·obtain⟨p,M,hp,hpj⟩:=QoZ (its:=its) h
    have:=(hmu p M hp).1 (hall p (by have:=(List.getElem?_eq_some_iff.1 hp).1;omega))
    omega
   ·omega
  subst hjt
  rw [List.take_length]at hsub
  refine k σ hsub fun i x fl nf hi=>?_
  have:=(hadd i x fl nf hi).1 (hall i (by have:=(List.getElem?_eq_some_iff.1 hi).1;omega))
  rwa [List.take_length]at this
end
inductive MD where
 | s
 | st (r:List V) (rs:List (List V))
 | app (rs:List (List V)) (m:Nat)
 | any (M:Mut)
 | cm (en:Ent) (M N:List (Nat×Nat)) (dead:List Nat) (ms:List Mode) (outs:List (Nat×Ob)) (r:V) (same:List Nat)
inductive Dw where
 | a (h:Hint) (sv:Option (List (Option Nat)×V)) (fl:Bool) (nf:Bool:=false)
 | m (md:MD)
def entF (P:Program)(T:Tab)(f:Operand→Option V)(hp:Nat→Option Ob)(c:Call):Ent→Option (Nat×List V×Prop)
 | .fn=>match c.callee with
  | .value (.func g)=>bif memB T.en g then match evs f c.args.toList with
   | some vs=>some (g,vs,True)
   | none=>none
   else none
  | _=>none
 | .clo=>match c.callee with
  | .value x=>match f x with
   | some (.clo (.func g) fs cs)=>bif memB T.en g then match evs f c.args.toList with
    | some vs=>some (g,fs++(vs++cs),True)
    | none=>none
    else none
   | _=>none
  | _=>none
 | .me g=>match c.callee with
  | .invoke x name=>match f x with
   | some (.ifc t u)=>bif memB T.en g then match evs f c.args.toList with
    | some vs=>some (g,u::vs,(QjC P t name=some (g,true)∧ptrB P t=true)∨(QjC P t name=some (g,false)∧Qn9 P t=true))
    | none=>none
    else none
   | _=>none
  | _=>none
 | .mv g e=>match c.callee with
  | .invoke x name=>match f x with
   | some (.ifc t (.loc b 0 0))=>match hp b with
    | some (.var [r])=>bif memB T.en g then match evs f c.args.toList with
     | some vs=>some (g,r::vs,QjC P t name=some (g,false)∧Qqh P t e=true∧aggB P e=some false)
     | none=>none
     else none
    | _=>none
   | _=>none
  | _=>none
theorem Qte {P:Program}{C:Ctx}{T:Tab}{f:Operand→Option V}{hp:Nat→Option Ob}{o:Oper}{c:Call}{en:Ent}{g:Nat}{vs:List V}{ψ:Prop}{σ:St}(ok:QcL P T)(ho:o.op=.call c)(e:entF P T f hp c en=some (g,vs,ψ))(hφ:ψ)
  (h1:∀x u,f x=some u→σ.opd x=some u) (h2:∀b u,hp b=some u→look σ.hp b=some u):Qa2 P C o σ g vs:=by
 obtain⟨ce,as,ts⟩:=c
 unfold entF at e
 split at e
 ·split at e
  ·rename_i f' hc
   dsimp only at hc;subst hc
   replace e:=bifS e;obtain⟨e1,e⟩:=e
   split at e
   ·rename_i vs' hv;cases e;exact Qa2.fn ho (ok.en e1) (QeJ h1 hv)
   ·cases e
  ·cases e
 ·split at e
  ·rename_i x hc
   dsimp only at hc;subst hc
   split at e
   ·rename_i f' fs cs hx
    replace e:=bifS e;obtain⟨e1,e⟩:=e
    split at e
    ·rename_i vs' hv;cases e;exact Qa2.clo ho (h1 _ _ hx) (ok.en e1) (QeJ h1 hv)
    ·cases e
   ·cases e
  ·cases e
 ·split at e
  ·rename_i x name hc
   dsimp only at hc;subst hc
   split at e
   ·rename_i t u hx
    replace e:=bifS e;obtain⟨e1,e⟩:=e
    split at e
    ·rename_i vs' hv;cases e;exact Qa2.meth (r:=u) ho (h1 _ _ hx) hφ (ok.en e1) (QeJ h1 hv)
    ·cases e
   ·cases e
  ·cases e
 ·split at e
  ·rename_i x name hc
   dsimp only at hc;subst hc
   split at e
   ·rename_i t b hx
    split at e
    ·rename_i r hb
     replace e:=bifS e;obtain⟨e1,e⟩:=e
     split at e
     ·rename_i vs' hv;cases e;exact Qa2.methV ho (h1 _ _ hx) hφ.1 hφ.2.1 hφ.2.2 (h2 _ _ hb) (ok.en e1) (QeJ h1 hv)
     ·cases e
    ·cases e
   ·cases e
  ·cases e
theorem QtK {bk:Nat→Option Nat}{hp hp':Nat→Option Ob}(h:∀b u,hp b=some u→hp' b=some u):∀{M:List (Nat×Nat)} {l:List (Nat×Ob)},obsM bk hp M=some l→obsM bk hp' M=some l:=by
 intro M
 induction M with
 | nil=>intro l e;exact e
 | cons p M ih=>
  obtain⟨d,s⟩:=p
  intro l e
  rw [obsM]at e ⊢
  split at e
  ·rename_i ob hob
   split at e
   ·rename_i ob' hob'
    split at e
    ·rename_i l' hl
     simp only [h _ _ hob,hob',ih hl];exact e
    ·cases e
   ·cases e
  ·cases e
theorem Qtf {σ:St}{M N:List (Nat×Nat)}{dead:List Nat}{outs:List (Nat×Ob)}(h:QcR ⟨[],N.map fun p=>(p.1,Ob.itr0)⟩ M N dead outs=true):QcR σ M N dead outs=true:=by
 simp only [QcR,Bool.and_eq_true,List.all_eq_true]at h ⊢
 obtain⟨⟨h1,h2⟩,h3⟩:=h
 refine⟨⟨h1,h2⟩,fun p hp=>⟨⟨?_,(h3 p hp).1.2⟩,(h3 p hp).2⟩⟩
 have hn:∀{l:List (Nat×Nat)},p∈l→(look (l.map fun p=>(p.1,Ob.itr0)) p.1).isNone=false:=by
  intro l hp
  induction l with
  | nil=>cases hp
  | cons q l ih=>
   show(look ((q.1,Ob.itr0)::l.map fun p=>(p.1,Ob.itr0)) p.1).isNone=false
   by_cases e:q.1=p.1
   ·rw [e,Qq];rfl
   ·rw [Qn _ _ e]
    refine ih ?_
    rcases List.mem_cons.1 hp with h | h
    ·exact absurd (congrArg Prod.fst h).symm e
    ·exact h
 have h4:=(h3 p hp).1.1
 rw [hn hp,Bool.or_false]at h4
 rw [h4];rfl
theorem Qnj {σ:St}(dead:List Nat):∀(l:List (Nat×Ob)),(σ.killL dead).sets l=σ.after dead l:=by
 intro l
 induction l with
 | nil=>rfl
 | cons p l ih=>rw [St.sets,ih];rfl
def Qtg (hp:Nat→Option Ob)(hsN:List (Nat×Ob)):List Nat→Prop
 | []=>True
 | b::r=>hp b=look hsN b∧Qtg hp hsN r
theorem QtL {hp:Nat→Option Ob}{hsN:List (Nat×Ob)}:∀{l:List Nat},Qtg hp hsN l→∀b,memB l b=true→hp b=look hsN b:=by
 intro l
 induction l with
 | nil=>intro _ b h;cases h
 | cons a l ih=>
  intro h b hb
  rw [memB]at hb
  cases e:Nat.beq a b with
  | true=>rw [←Nat.eq_of_beq_eq_true e];exact h.1
  | false=>rw [e]at hb;exact ih h.2 b (by simpa using hb)
theorem QsE {same:List Nat}:∀{l:List (Nat×Ob)} {b:Nat},look (l.filter fun p=>!(memB same p.1)) b=if memB same b=true then none else look l b:=by
 intro l
 induction l with
 | nil=>intro b;simp [look]
 | cons p l ih=>
  intro b
  rw [List.filter_cons]
  by_cases e:p.1=b
  ·subst e
   cases h:memB same p.1 with
   | true=>
    simp only [Bool.not_true,Bool.false_eq_true,if_false]
    rw [ih,h];simp
   | false=>
    simp only [Bool.not_false,if_true,Bool.false_eq_true,if_false]
    obtain⟨k,v⟩:=p
    rw [Qq,Qq]
  ·cases h:memB same p.1 with
   | true=>
    simp only [Bool.not_true,Bool.false_eq_true,if_false]
    rw [ih,Qn (k:=p.1) p.2 l e]
   | false=>
    simp only [Bool.not_false,if_true]
    rw [Qn (k:=p.1) p.2 _ e,ih,Qn (k:=p.1) p.2 l e]
theorem R.congrHp {C:Ctx}{σ σ':St}(hf:σ'.fr=σ.fr)(hh:∀o,look σ'.hp o=look σ.hp o){a:Act}{w:World}(hR:R C σ a w):R C σ' a w:=by
 obtain⟨φ,h⟩:=hR
 exact⟨φ,h.os,h.tape,h.output,h.size,h.kept,h.inj,fun o B hB=>by rw [hh];exact h.dom o B hB,h.lt,h.new,⟨h.stay.1,fun o ob B h1 h2 h3=>h.stay.2 o ob B h1 (by rw [←hh];exact h2) h3⟩,h.tmps,h.defers,fun t v hv=>h.frame t v (by rw [←hf];exact hv),fun o ob hob=>h.heap o ob (by rw [←hh];exact hob)⟩
def mu1 (P:Program)(C:Ctx)(T:Tab)(n:Nat)(md:MD)(o:Oper)(f:Operand→Option V)(hp:Nat→Option Ob):Option (Mut×Option Prop):=match md with
 | .cm en M N dead ms outs r same=>match o.dst with
  | some d=>match o.op with
   | .call c=>bif QcR ⟨[],N.map fun p=>(p.1,Ob.itr0)⟩ M N dead outs&&Qgk (M.map Prod.fst)&&Qgk (N.map Prod.fst)&&Nat.ble (d+1) n then match entF P T f hp c en with
    | some (g,vs,ψ)=>match QjE (bkM M) ms vs with
     | some us=>match obsM (bkM M) hp M with
      | some hsC=>match obsM (bkM N) (look outs) N with
       | some hsN=>match trV (bkM N) r with
        | some r'=>match same with
         | []=>some (⟨dead,hsN,some (d,r')⟩,some (ψ∧Qc P g us hsC (Gives r outs)))
         | _=>match dead with
          | []=>some (⟨[],hsN.filter (fun p=>!(memB same p.1)),some (d,r')⟩,some ((ψ∧Qc P g us hsC (Gives r outs))∧Qtg hp hsN same))
          | _=>none
        | none=>none
       | none=>none
      | none=>none
     | none=>none
    | none=>none
    else none
   | _=>none
  | none=>none
 | .any M=>some (M,some (∀σ:St,(∀x u,f x=some u→σ.opd x=some u)→(∀b u,hp b=some u→look σ.hp b=some u)→Stp P C o σ (M.run σ)))
 | .s=>match o.dst with
  | some d=>match o.op with
   | .assign x=>match f x with
    | some v=>bif Nat.ble (d+1) n then some (⟨[],[],some (d,v)⟩,none)else none
    | none=>none
   | .move x=>match f x with
    | some v=>bif Nat.ble (d+1) n then some (⟨[],[],some (d,v)⟩,none)else none
    | none=>none
   | _=>none
  | none=>match o.op with
   | .store Tx x y=>match f x with
    | some (.loc b i off)=>match f y with
     | some v=>match hp b with
      | some (.var cs)=>match i with
       | 0=>match look T.sz Tx with
        | some k=>bif v.isV&&Nat.beq v.cells.length k&&v.cells.all V.one&&Nat.ble (off+k) cs.length then some (⟨[],[(b,.var (QbG cs off v.cells))],none⟩,none)else none
        | none=>none
       | _=>none
      | _=>none
     | none=>none
    | _=>none
   | _=>none
 | .st r rs'=>match o.dst with
  | some _=>none
  | none=>match o.op with
   | .store Tx x y=>match f x with
    | some (.loc b i off)=>match f y with
     | some v=>match hp b with
      | some (.arr z rs)=>match look T.sz Tx with
       | some k=>bif v.isV&&Nat.beq v.cells.length k&&v.cells.all V.one&&v.cells.all V.dat&&Nat.ble (off+k) z then some (⟨[],[(b,.arr z rs')],none⟩,some (rs[i]? = some r∧rs.set i (QbG r off v.cells)=rs'))else none
       | none=>none
      | _=>none
     | none=>none
    | _=>none
   | _=>none
 | .app rs' m=>match o.dst with
  | some d=>match o.op with
   | .call c=>match c.callee with
    | .builtin .append=>match c.args.toList with
     | [x,y]=>match c.argTypes.toList with
      | [Tx,Ty]=>match f x with
       | some (.own b k)=>match f y with
        | some v=>match hp b with
         | some (.arr z rs)=>match look T.es Tx with
          | some (e,z',by_)=>match look T.zv e with
           | some zs=>bif (look T.es Ty).isSome&&Nat.ble (d+1) n&&!(Nat.ble 200000 b)&&Nat.beq z z'&&Nat.beq zs.length z&&!(Nat.beq z 0)&&Nat.ble by_ 32768 then match v with
            | .sl z'' us=>bif Nat.beq z z'' then some (⟨[b],[(b,.arr z rs')],some (d,.own b m)⟩,some (rs.length=k∧decide (k+us.length≤4294967296)=true∧rs++us=rs'∧k+us.length=m))else none
            | _=>none
            else none
           | none=>none
          | none=>none
         | _=>none
        | none=>none
       | _=>none
      | _=>none
     | _=>none
    | _=>none
   | _=>none
  | none=>none
def QkL (obj:Bool)(o:Oper)(t:Nat)(fo:Bool)(ms:List Mut):List (It×Nat)→Nat→Option DF
 | (.add x fl _,j)::r,i+1=>bif Nat.beq x.d t&&depB o i&&(bif fo then fl else bif obj then alvO x fl (ms.drop j)else alv x fl (ms.drop j))then some x else QkL obj o t fo ms r i
 | (.tn _,_)::r,i+1=>QkL obj o t fo ms r i
 | _,_=>none
def envI (B:St)(fo:Bool)(ms:List Mut)(ri:List (It×Nat))(i:Nat)(o:Oper):Operand→Option V
 | .tmp t=>match look B.fr t with
  | some v=>some v
  | none=>match QkL false o t fo ms ri i with
   | some x=>some x.v
   | none=>none
 | x=>B.opd x
def envJ (B:St)(fo:Bool)(ms:List Mut)(ri:List (It×Nat))(i:Nat)(o:Oper)(b:Nat):Option Ob:=match look B.hp b with
 | some ob=>some ob
 | none=>match QkL true o b fo ms ri i with
  | some x=>x.ob
  | none=>none
structure Dr where
 ri:List (It×Nat)
 ms:List Mut
 B:St
 φ:Prop
def QfW (P:Program)(C:Ctx)(T:Tab)(n:Nat)(ops:Array Oper)(S:St):List Dw→List Oper→Nat→List (It×Nat)→List Mut→St→Prop→Option Dr
 | [],_,_,ri,ms,B,φ=>some ⟨ri,ms,B,φ⟩
 | .a h sv fl nf::ds,o::l,i,ri,ms,B,φ=>match Qen ops o (fun t=>envI (bif fl&&!nf then S else B) (fl&&!nf) ms ri i o (.tmp t))with
  | some true=>match o.dst with
   | some d=>bif Nat.ble (d+1) n then match ev1 P C T h o d (envI (bif fl&&!nf then S else B) (fl&&!nf) ms ri i o) (envJ (bif fl&&!nf then S else B) (fl&&!nf) ms ri i o)with
    | some ⟨v,ob,q⟩=>match sv with
     | none=>QfW P C T n ops S ds l (i+1) ((.add ⟨d,v,ob⟩ fl nf,ms.length)::ri) ms B (addφ φ q)
     | some (mm,u)=>QfW P C T n ops S ds l (i+1) ((.add ⟨d,u,ob⟩ fl nf,ms.length)::ri) ms B (addφ φ q∧v.denil mm=u)
    | none=>none
    else none
   | none=>none
  | some false=>match o.dst with
   | some d=>bif Nat.ble (d+1) n then QfW P C T n ops S ds l (i+1) ((.add ⟨d,.lit undef,none⟩ fl nf,ms.length)::ri) ms B φ else none
   | none=>none
  | none=>none
 | .m md::ds,o::l,i,ri,ms,B,φ=>match Qen ops o (fun t=>envI B false ms ri i o (.tmp t))with
  | some true=>match mu1 P C T n md o (envI B false ms ri i o) (envJ B false ms ri i o)with
   | some (M,q)=>QfW P C T n ops S ds l (i+1) ((.tn M,ms.length)::ri) (ms++[M]) (M.run B) (addφ φ q)
   | none=>none
  | _=>none
 | _::_,[],_,_,_,_,_=>none
def Qaj (ri:List (It×Nat)):List It:=(ri.map Prod.fst).reverse
section
variable {P:Program}{C:Ctx}{T:Tab}{Q:Exit→St→Prop}{n:Nat}{ops:Array Oper}{base S:St}{ks:List Fr}
theorem Qru {md:MD}{o:Oper}{f:Operand→Option V}{hp:Nat→Option Ob}{M:Mut}{q:Option Prop}{σ:St}(ok:QcL P T)(hN:Qem P C n)(e:mu1 P C T n md o f hp=some (M,q))(hq:match q with | none=>True | some p=>p)
  (h1:∀x u,f x=some u→σ.opd x=some u) (h2:∀b u,hp b=some u→look σ.hp b=some u):Stp P C o σ (M.run σ):=by
 have hn:=hN.n
 have hpg:=hN.g
 unfold mu1 at e
 cases md with
 | any M0=>cases e;exact hq σ h1 h2
 | cm en M0 N dead ms outs r same=>
  dsimp only at e
  split at e
  ·rename_i d hd
   split at e
   ·rename_i c ho
    replace e:=bifS e;obtain⟨e1,e⟩:=e
    simp only [Bool.and_eq_true]at e1
    obtain⟨⟨⟨g1,g2⟩,g3⟩,g4⟩:=e1
    rw [←hn]at g4
    have g1:=Qtf (σ:=σ) g1
    have g2:=QbX.1 g2
    have g3:=QbX.1 g3
    have inj:injB M0=true∧injB N=true:=by
     simp only [QcR,Bool.and_eq_true]at g1
     exact⟨g1.1.1.1,g1.1.1.2⟩
    have mM:∀a b,bkM M0 a=some b→look M0 b=some a:=fun a b h=>Qa3 inj.1 (Qfo h) g2
    have mN:∀a b,bkM N a=some b→look N b=some a:=fun a b h=>Qa3 inj.2 (Qfo h) g3
    split at e
    ·rename_i g vs ψ hent
     split at e
     ·rename_i us hus
      split at e
      ·rename_i hsC hC
       split at e
       ·rename_i hsN hN
        split at e
        ·rename_i r' hr
         have call:ψ∧Qc P g us hsC (Gives r outs)→Stp P C o σ ((σ.after dead hsN).put d r'):=fun hq=>
          Stp.callM (g:=false) (Qte (C:=C) ok ho hent hq.1 h1 h2) hd g4 hpg g1 g2 (Qho mM hus) (Qco mM (QtK h2 hC)) hq.2 (Qco mN hN) (Qjr mN hr)
         split at e
         ·cases e
          unfold Mut.run
          dsimp only
          rw [Qnj];exact call hq
         ·split at e
          ·cases e
           obtain⟨hq1,hq2⟩:=hq
           intro a w hR K Q hK
           refine call hq1 a w hR K Q fun a' w' hR'=>hK a' w' (R.congrHp ?_ (fun o=>?_) hR')
           ·unfold Mut.run;dsimp only;rw [Qnj];rfl
           ·unfold Mut.run;dsimp only;rw [Qnj]
            show look (_++σ.hp) o=look (_++σ.hp) o
            rw [Qet,Qet,QsE]
            by_cases hm:memB same o=true
            ·rw [if_pos hm]
             have:=QtL hq2 o hm
             cases hl:look hsN o with
             | none=>rfl
             | some ob=>rw [hl]at this;exact h2 o ob this
            ·rw [if_neg hm]
          ·cases e
        ·cases e
       ·cases e
      ·cases e
     ·cases e
    ·cases e
   ·cases e
  ·cases e
 | s=>
  dsimp only at e
  split at e
  ·rename_i d hd
   split at e
   ·rename_i x ho
    split at e
    ·rename_i v hv
     replace e:=bifS e;obtain⟨e1,e⟩:=e
     rw [←hn]at e1
     cases e;exact Stp.assign ho hd e1 (h1 _ _ hv)
    ·cases e
   ·rename_i x ho
    split at e
    ·rename_i v hv
     replace e:=bifS e;obtain⟨e1,e⟩:=e
     rw [←hn]at e1
     cases e;exact Stp.move ho hd e1 (h1 _ _ hv)
    ·cases e
   ·cases e
  ·rename_i hd
   split at e
   ·rename_i Tx x y ho
    split at e
    ·rename_i b i off hx
     split at e
     ·rename_i v hv
      split at e
      ·rename_i cs hb
       split at e
       ·split at e
        ·rename_i k hk
         replace e:=bifS e;obtain⟨e2,e⟩:=e
         cases e
         simp only [Bool.and_eq_true]at e2
         obtain⟨⟨⟨a1,a2⟩,a3⟩,a4⟩:=e2
         exact Stp.storeL ho hd (h1 _ _ hx) (h2 _ _ hb) (h1 _ _ hv) (V.isV_or a1) (ok.sz hk) (Nat.eq_of_beq_eq_true a2) a3 a4 rfl
        ·cases e
       ·cases e
      ·cases e
     ·cases e
    ·cases e
   ·cases e
 | st r rs'=>
  dsimp only at e
  split at e
  ·cases e
  ·rename_i hd
   split at e
   ·rename_i Tx x y ho
    split at e
    ·rename_i b i off hx
     split at e
     ·rename_i v hv
      split at e
      ·rename_i z rs hb
       split at e
       ·rename_i k hk
        replace e:=bifS e;obtain⟨e2,e⟩:=e
        cases e
        simp only [Bool.and_eq_true]at e2
        obtain⟨⟨⟨⟨a1,a2⟩,a3⟩,a4⟩,a5⟩:=e2
        exact Stp.storeA ho hd (h1 _ _ hx) (h2 _ _ hb) hq.1 (h1 _ _ hv) (V.isV_or a1) (ok.sz hk) (Nat.eq_of_beq_eq_true a2) a3 a4 a5 hq.2
       ·cases e
      ·cases e
     ·cases e
    ·cases e
   ·cases e
 | app rs' m=>
  dsimp only at e
  split at e
  ·rename_i d hd
   split at e
   ·rename_i c ho
    obtain⟨ce,as,ts⟩:=c
    split at e
    ·rename_i hce
     dsimp only at hce e;subst hce
     split at e
     ·rename_i x y hxy
      split at e
      ·rename_i Tx Ty hT
       split at e
       ·rename_i b k hx
        split at e
        ·rename_i v hv
         split at e
         ·rename_i z rs hb
          split at e
          ·rename_i et z' by_ hes
           split at e
           ·rename_i zs hz
            replace e:=bifS e;obtain⟨e1,e⟩:=e
            simp only [Bool.and_eq_true,Bool.not_eq_true']at e1
            obtain⟨⟨⟨⟨⟨⟨a1,a2⟩,a3⟩,a4⟩,a5⟩,a6⟩,a7⟩:=e1
            have a4:=Nat.eq_of_beq_eq_true a4;subst a4
            have a5:=Nat.eq_of_beq_eq_true a5
            have a6:z≠0:=fun h0=>by rw [h0]at a6;cases a6
            rw [←hn]at a2
            obtain⟨⟨e2,z2,by2⟩,hU⟩:∃q,Qax P Ty=some q:=by
             cases hl:look T.es Ty with
             | none=>rw [hl]at a1;cases a1
             | some q=>exact⟨q,ok.es hl⟩
            have ea:as=#[x,y]:=by rw [←Array.toArray_toList (xs:=as),hxy]
            have et:ts=#[Tx,Ty]:=by rw [←Array.toArray_toList (xs:=ts),hT]
            subst ea;subst et
            split at e
            ·rename_i z'' us
             replace e:=bifS e;obtain⟨e3,e⟩:=e
             have:=Nat.eq_of_beq_eq_true e3;subst this
             cases e
             obtain⟨h4,h5,h6,h7⟩:=hq
             exact Stp.appS ho hd a2 (h1 _ _ hx) (h2 _ _ hb) a3 h4 (ok.es hes) hU (ok.zv hz) a5 a6 a7 h5 (h1 _ _ hv) h6 h7
            ·cases e
           ·cases e
          ·cases e
         ·cases e
        ·cases e
       ·cases e
      ·cases e
     ·cases e
    ·cases e
   ·cases e
  ·cases e
theorem Qok {obj:Bool}{o:Oper}{t:Nat}{fo:Bool}{ms:List Mut}:∀{ri:List (It×Nat)} {i:Nat} {x:DF},i=ri.length→QkL obj o t fo ms ri i=some x→
  ∃k fl nf j,ri.reverse[k]? = some (.add x fl nf,j)∧depB o k=true∧x.d=t∧(bif fo then fl else bif obj then alvO x fl (ms.drop j)else alv x fl (ms.drop j))=true:=by
 intro ri
 induction ri with
 | nil=>intro i x hi h;subst hi;cases h
 | cons y ri ih=>
  intro i x hi h
  subst hi
  have up:∀{x:DF},(∃k fl nf j,ri.reverse[k]? = some (.add x fl nf,j)∧depB o k=true∧x.d=t∧(bif fo then fl else bif obj then alvO x fl (ms.drop j)else alv x fl (ms.drop j))=true)→∃k fl nf j,(y::ri).reverse[k]? = some (.add x fl nf,j)∧depB o k=true∧x.d=t∧(bif fo then fl else bif obj then alvO x fl (ms.drop j)else alv x fl (ms.drop j))=true:=by
   rintro x ⟨k,fl,nf,j,h1,h2⟩
   refine⟨k,fl,nf,j,?_,h2⟩
   rw [List.reverse_cons,List.getElem?_append_left (List.getElem?_eq_some_iff.1 h1).1];exact h1
  obtain⟨it,j⟩:=y
  cases it with
  | tn M=>rw [List.length_cons,QkL]at h;exact up (ih rfl h)
  | add z fl nf=>
   rw [List.length_cons,QkL]at h
   cases hb:(Nat.beq z.d t&&depB o ri.length&&(bif fo then fl else bif obj then alvO z fl (ms.drop j)else alv z fl (ms.drop j)))with
   | true=>
    rw [hb]at h;cases h
    simp only [Bool.and_eq_true]at hb
    exact⟨ri.length,fl,nf,j,by simp,hb.1.2,Nat.eq_of_beq_eq_true hb.1.1,hb.2⟩
   | false=>rw [hb]at h;exact up (ih rfl h)
theorem Qnk {o:Oper}{f:Nat→Option V}{σ:St}{b:Bool}(hw:Qen ops o f=some b)(hx:∀t u,f t=some u→look σ.fr t=some u):Qen ops o (look σ.fr)=some b:=by
 unfold Qen at hw ⊢
 cases hg:o.guard with
 | none=>simp only [hg]at hw ⊢;exact hw
 | some p=>
  obtain⟨j,t⟩:=p
  simp only [hg]at hw ⊢
  cases hj:ops[j]? with
  | none=>simp only [hj]at hw;cases hw
  | some oj=>
   simp only [hj]at hw ⊢
   cases hd:oj.dst with
   | none=>simp only [hd]at hw;cases hw
   | some d=>
    simp only [hd]at hw ⊢
    cases hf:f d with
    | none=>simp only [hf]at hw;cases hw
    | some v=>
     have:=hx d v hf
     simp only [hf]at hw
     simp only [this]
     exact hw
theorem QaW.want {o:Oper}{σ σ':St}(h:Qen ops o (look σ.fr)=some true)(hs:Stp P C o σ σ'):QaW P C ops o σ σ':=by
 rcases QkM h with⟨hg,_⟩|⟨j,t,d',hg,hj,⟨u,hu,hb⟩|⟨_,hb⟩⟩
 ·exact QaW.run hg hs
 ·exact QaW.runG hg hj hu (by simpa using hb.symm) hs
 ·cases hb
theorem QaW.unwant {o:Oper}{σ:St}{d:Nat}(h:Qen ops o (look σ.fr)=some false)(hd:o.dst=some d)(hn:Nat.ble (d+1) C.n=true):QaW P C ops o σ (σ.put d (.lit undef)):=by
 rcases QkM h with⟨_,hb⟩|⟨j,t,d',hg,hj,⟨u,hu,hb⟩|⟨hu,_⟩⟩
 ·cases hb
 ·have:u=!t:=by cases u<;>cases t<;>first | rfl | cases hb
  exact QaW.pass hg hj hu this hd hn
 ·exact QaW.passU hg hj hu hd hn
theorem Qq0 (ok:QcL P T)(hN:Qem P C n){D:Dr}:∀(ds:List Dw) {l:List Oper} {i:Nat} {ri:List (It×Nat)} {ms:List Mut} {B:St} {φ:Prop},QfW P C T n ops S ds l i ri ms B φ=some D→i=ri.length→l=ops.toList.drop i→ms=QJ (Qaj ri)→B=bof base ms→
  (∀k it j,ri.reverse[k]? = some (it,j)→j=j0 (Qaj ri) k)→D.φ→
  φ∧D.ri.length=i+ds.length∧(∃r,Qaj D.ri=Qaj ri++r)∧D.ms=QJ (Qaj D.ri)∧D.B=bof base D.ms∧(∀k it j,D.ri.reverse[k]? = some (it,j)→j=j0 (Qaj D.ri) k)∧
   ∀k o it,i≤k→ops[k]? = some o→(Qaj D.ri)[k]? = some it→QmL P C ops base S (Qaj D.ri) k o it:=by
 have hn:=hN.n
 intro ds
 induction ds with
 | nil=>
  intro l i ri ms B φ h hi hl hms hB hj hφ
  cases h
  refine⟨hφ,by simp [hi],⟨[],by simp⟩,hms,hB,hj,fun k o it hk ho hit=>?_⟩
  have:=(List.getElem?_eq_some_iff.1 hit).1
  simp [Qaj]at this;omega
 | cons d ds ih=>
  intro l i ri ms B φ h hi hl hms hB hj hφ
  cases l with
  | nil=>cases d<;>cases h
  | cons o l=>
   have ho:ops[i]? = some o:=by
    have:=congrArg (fun x=>x[0]?) hl
    simpa using this.symm
   have hl':l=ops.toList.drop (i+1):=by
    have:=congrArg List.tail hl
    simpa using this
   have hlen:(Qaj ri).length=i:=by simp [Qaj,hi]
   have grow:∀(it:It) (φ0:Prop) (ms':List Mut) (B':St),ms'=QJ (Qaj ri++[it])→B'=bof base ms'→QfW P C T n ops S ds l (i+1) ((it,ms.length)::ri) ms' B' φ0=some D→
     (φ0→φ∧∀its:List It,(∃r,its=Qaj ri++(it::r))→QmL P C ops base S its i o it)→
     φ∧D.ri.length=i+(ds.length+1)∧(∃r,Qaj D.ri=Qaj ri++r)∧D.ms=QJ (Qaj D.ri)∧D.B=bof base D.ms∧(∀k it j,D.ri.reverse[k]? = some (it,j)→j=j0 (Qaj D.ri) k)∧
      ∀k o it,i≤k→ops[k]? = some o→(Qaj D.ri)[k]? = some it→QmL P C ops base S (Qaj D.ri) k o it:=by
    intro it φ0 ms' B' hms' hB' h hstep
    have hio:Qaj ((it,ms.length)::ri)=Qaj ri++[it]:=by simp [Qaj]
    obtain⟨h1,h2,⟨r,h3⟩,h4,h5,h6,h7⟩:=ih h (by simp [hi]) hl' (by rw [hio];exact hms') hB' (fun k it' j hk=>by
     rw [hio]
     rw [List.reverse_cons]at hk
     by_cases hlt:k<ri.length
     ·rw [List.getElem?_append_left (by simpa using hlt)]at hk
      rw [hj k it' j hk];unfold j0
      rw [List.take_append_of_le_length (by omega)]
     ·rw [List.getElem?_append_right (by simp;omega)]at hk
      have:k-ri.reverse.length=0:=by
       have:=(List.getElem?_eq_some_iff.1 hk).1;simpa using this
      rw [this]at hk;simp at hk
      obtain⟨rfl,rfl⟩:=hk
      have hk2:k=ri.length:=by simp at this;omega
      unfold j0
      rw [List.take_append_of_le_length (by omega),hms,List.take_of_length_le (by omega)]) hφ
    obtain⟨h8,h9⟩:=hstep h1
    rw [hio,List.append_assoc]at h3
    refine⟨h8,by omega,⟨_,h3⟩,h4,h5,h6,fun k o' it' hk ho' hit=>?_⟩
    rcases Nat.lt_or_ge i k with hlt | hge
    ·exact h7 k o' it' hlt ho' hit
    ·have:k=i:=by omega
     subst this
     rw [ho]at ho';cases ho'
     have:(Qaj D.ri)[k]? = some it:=by rw [h3,List.getElem?_append_right (by omega),hlen];simp
     rw [this]at hit;cases hit
     exact h9 _ ⟨r,h3⟩
   have place:∀{its:List It} {it:It} {r:List It},its=Qaj ri++(it::r)→(QJ its).take (j0 its i)=ms∧∀k it' j,ri.reverse[k]? = some (it',j)→its[k]? = some it'∧j=j0 its k:=by
    intro its it r hits
    have h1:its.take i=Qaj ri:=by rw [hits,List.take_append_of_le_length (by omega),List.take_of_length_le (by omega)]
    refine⟨?_,fun k it' j hk=>⟨?_,?_⟩⟩
    ·unfold j0;rw [h1,hits,Qfp,←hms];simp
    ·have hk2:(Qaj ri)[k]? = some it':=by simp only [Qaj,←List.map_reverse,List.getElem?_map,hk,Option.map_some]
     rw [hits,List.getElem?_append_left (List.getElem?_eq_some_iff.1 hk2).1];exact hk2
    ·have hkl:=(List.getElem?_eq_some_iff.1 hk).1
     rw [hj k it' j hk];unfold j0
     rw [hits,List.take_append_of_le_length (by simp at hkl;omega)]
   have envB:∀{its:List It} {it:It} {r:List It} {σ:St},its=Qaj ri++(it::r)→Sub σ B→(∀k y fl nf,its[k]? = some (.add y fl nf)→depB o k=true→hasV σ y fl (ms.drop (j0 its k)))→
     (∀x u,envI B false ms ri i o x=some u→σ.opd x=some u)∧∀b u,envJ B false ms ri i o b=some u→look σ.hp b=some u:=by
    intro its it r σ hits hsub hdep
    have dep:∀{t:Nat} {x:DF},QkL false o t false ms ri i=some x→look σ.fr x.d=some x.v∧x.d=t:=fun hf=>by
     obtain⟨k,fl,nf,j,g1,g2,g3,g4⟩:=Qok hi hf
     obtain⟨g5,g6⟩:=(place hits).2 k _ j g1
     exact⟨(hdep k _ fl nf g5 g2).1 (by rw [←g6];exact g4),g3⟩
    have depO:∀{t:Nat} {x:DF},QkL true o t false ms ri i=some x→(∀ob,x.ob=some ob→look σ.hp x.d=some ob)∧x.d=t:=fun hf=>by
     obtain⟨k,fl,nf,j,g1,g2,g3,g4⟩:=Qok hi hf
     obtain⟨g5,g6⟩:=(place hits).2 k _ j g1
     exact⟨(hdep k _ fl nf g5 g2).2 (by rw [←g6];exact g4),g3⟩
    refine⟨fun x u hx=>?_,fun b u hx=>?_⟩
    ·cases x with
     | tmp t=>
      simp only [envI]at hx
      split at hx
      ·rename_i v hv;cases hx;exact hsub.1 _ _ hv
      ·split at hx
       ·rename_i y hy;cases hx;obtain⟨g1,g2⟩:=dep hy;subst g2;exact g1
       ·cases hx
     | const v=>exact hx
     | global g=>exact hx
     | func f=>exact hx
    ·simp only [envJ]at hx
     split at hx
     ·rename_i v hv;cases hx;exact hsub.2 _ _ hv
     ·split at hx
      ·rename_i y hy;obtain⟨g1,g2⟩:=depO hy;subst g2;exact g1 _ hx
      ·cases hx
   have envS:∀{its:List It} {it:It} {r:List It} {σ:St},its=Qaj ri++(it::r)→Sub σ S→(∀k y nf,its[k]? = some (.add y true nf)→depB o k=true→hasF σ y)→
     (∀x u,envI S true ms ri i o x=some u→σ.opd x=some u)∧∀b u,envJ S true ms ri i o b=some u→look σ.hp b=some u:=by
    intro its it r σ hits hsub hdep
    have dep:∀{b:Bool} {t:Nat} {x:DF},QkL b o t true ms ri i=some x→hasF σ x∧x.d=t:=fun hf=>by
     obtain⟨k,fl,nf,j,g1,g2,g3,g4⟩:=Qok hi hf
     obtain⟨g5,g6⟩:=(place hits).2 k _ j g1
     have:fl=true:=g4
     subst this
     exact⟨hdep k _ nf g5 g2,g3⟩
    refine⟨fun x u hx=>?_,fun b u hx=>?_⟩
    ·cases x with
     | tmp t=>
      simp only [envI]at hx
      split at hx
      ·rename_i v hv;cases hx;exact hsub.1 _ _ hv
      ·split at hx
       ·rename_i y hy;cases hx;obtain⟨g1,g2⟩:=dep hy;subst g2;exact g1.1
       ·cases hx
     | const v=>exact hx
     | global g=>exact hx
     | func f=>exact hx
    ·simp only [envJ]at hx
     split at hx
     ·rename_i v hv;cases hx;exact hsub.2 _ _ hv
     ·split at hx
      ·rename_i y hy;obtain⟨g1,g2⟩:=dep hy;subst g2;exact g1.2 _ hx
      ·cases hx
   have addOK:∀{x:DF} {fl nf:Bool} {φ0:Prop},QfW P C T n ops S ds l (i+1) ((.add x fl nf,ms.length)::ri) ms B φ0=some D→
     (φ0→φ∧∀σ,(∀y u,envI (bif fl&&!nf then S else B) (fl&&!nf) ms ri i o y=some u→σ.opd y=some u)→(∀b u,envJ (bif fl&&!nf then S else B) (fl&&!nf) ms ri i o b=some u→look σ.hp b=some u)→(x.ob.isSome=true→look σ.hp x.d=none)→QaW P C ops o σ (σ.addF x))→
     φ∧D.ri.length=i+(ds.length+1)∧(∃r,Qaj D.ri=Qaj ri++r)∧D.ms=QJ (Qaj D.ri)∧D.B=bof base D.ms∧(∀k it j,D.ri.reverse[k]? = some (it,j)→j=j0 (Qaj D.ri) k)∧
      ∀k o it,i≤k→ops[k]? = some o→(Qaj D.ri)[k]? = some it→QmL P C ops base S (Qaj D.ri) k o it:=by
    intro x fl nf φ0 h hs
    refine grow (.add x fl nf) φ0 ms B (by rw [Qfp];simp [QJ,hms]) hB h fun h0=>?_
    obtain⟨g1,g2⟩:=hs h0
    refine⟨g1,fun its ⟨r,hits⟩=>?_⟩
    dsimp only [QmL]
    generalize (fl&&!nf)=ff at g2 ⊢
    cases ff with
    | true=>exact fun σ hsub hdep hf=>let ⟨a,b⟩:=envS hits hsub hdep;g2 σ a b hf
    | false=>
     intro σ hsub hdep hf
     rw [(place hits).1,←hB]at hsub
     rw [(place hits).1]at hdep
     obtain⟨a,b⟩:=envB hits hsub hdep
     exact g2 σ a b hf
   cases d with
   | a h0 sv fl nf=>
    rw [QfW]at h
    split at h
    ·rename_i hw
     split at h
     ·rename_i dd hd
      replace h:=bifS h;obtain⟨e1,h⟩:=h
      rw [←hn]at e1
      have stp:∀{v:V} {ob:Option Ob} {q:Option Prop} {σ:St},ev1 P C T h0 o dd (envI (bif fl&&!nf then S else B) (fl&&!nf) ms ri i o) (envJ (bif fl&&!nf then S else B) (fl&&!nf) ms ri i o)=some ⟨v,ob,q⟩→Rs.holds ⟨v,ob,q⟩→
        (∀x u,envI (bif fl&&!nf then S else B) (fl&&!nf) ms ri i o x=some u→σ.opd x=some u)→(∀b u,envJ (bif fl&&!nf then S else B) (fl&&!nf) ms ri i o b=some u→look σ.hp b=some u)→(ob.isSome=true→look σ.hp dd=none)→QaW P C ops o σ (σ.addF ⟨dd,v,ob⟩):=
       fun he hq hx hh hf=>QaW.want (Qnk hw fun t u ht=>hx (.tmp t) u ht) (Qoc ok hd e1 hN.g hx hh he hq hf)
      split at h
      ·rename_i v ob q he
       split at h
       ·exact addOK h fun h1=>let ⟨a,b⟩:=QlB h1;⟨a,fun σ hx hh hf=>stp he b hx hh hf⟩
       ·refine addOK h fun h1=>?_
        obtain⟨h1,h2⟩:=h1
        subst h2
        obtain⟨a,b⟩:=QlB h1
        exact⟨a,fun σ hx hh hf=>(stp he b hx hh hf).denil⟩
      ·cases h
     ·cases h
    ·rename_i hw
     split at h
     ·rename_i dd hd
      replace h:=bifS h;obtain⟨e1,h⟩:=h
      rw [←hn]at e1
      exact addOK h fun h1=>⟨h1,fun σ hx hh hf=>QaW.unwant (Qnk hw fun t u ht=>hx (.tmp t) u ht) hd e1⟩
     ·cases h
    ·cases h
   | m md=>
    rw [QfW]at h
    split at h
    ·rename_i hw
     split at h
     ·rename_i M q he
      refine grow (.tn M) (addφ φ q) (ms++[M]) (M.run B) (by rw [Qfp];simp [QJ,hms]) (by rw [Qqm,←hB];rfl) h fun h1=>?_
      obtain⟨a,b⟩:=QlB (v:=.J) (ob:=none) h1
      refine⟨a,fun its ⟨r,hits⟩ σ hsub hdep=>?_⟩
      rw [(place hits).1,←hB]at hsub
      rw [(place hits).1]at hdep
      obtain⟨hx,hh⟩:=envB hits hsub hdep
      refine QaW.want (Qnk hw fun t u ht=>hx (.tmp t) u ht) (Qru ok hN he ?_ hx hh)
      cases q with
      | none=>trivial
      | some p=>exact b
     ·cases h
    ·cases h
def QjF (ms:List Mut):List (It×Nat)→List (Nat×V)
 | []=>[]
 | (.add x fl _,j)::r=>bif alv x fl (ms.drop j)then(x.d,x.v)::QjF ms r else QjF ms r
 | (.tn _,_)::r=>QjF ms r
def QiK (ms:List Mut):List (It×Nat)→List (Nat×Ob)
 | []=>[]
 | (.add x fl _,j)::r=>bif alvO x fl (ms.drop j)then(match x.ob with | some ob=>(x.d,ob)::QiK ms r | none=>QiK ms r)else QiK ms r
 | (.tn _,_)::r=>QiK ms r
def okV (ops:Array Oper)(base S:St)(D:Dr):Bool:=ordB ops&&ordV ops (Qaj D.ri)&&Qsd base (Qaj D.ri)&&QmK D.ms (Qaj D.ri)&&QqZ ops (Qaj D.ri) D.ms S&&Qta ops (Qaj D.ri)
theorem Qnl {α:Type}{l:List (Nat×α)}:∀{ts:List Nat} {r:List (Nat×α)},QgT l ts=some r→∀p∈r,look l p.1=some p.2:=by
 intro ts
 induction ts with
 | nil=>intro r h p hp;cases h;cases hp
 | cons t ts ih=>
  intro r h p hp
  rw [QgT]at h
  split at h
  ·rename_i v hv
   split at h
   ·rename_i r' hr
    cases h
    rcases List.mem_cons.1 hp with rfl | hp
    ·exact hv
    ·exact ih hr p hp
   ·cases h
  ·cases h
theorem Quo {fr:List (Nat×V)}:∀{l:List (Nat×V)},(∀p∈l,look fr p.1=some p.2)→QhD fr l:=by
 intro l
 induction l with
 | nil=>intro _;trivial
 | cons p l ih=>intro h;exact⟨h p List.mem_cons_self,ih fun q hq=>h q (List.mem_cons_of_mem _ hq)⟩
theorem Qup {fr:List (Nat×Ob)}:∀{l:List (Nat×Ob)},(∀p∈l,look fr p.1=some p.2)→QhE fr l:=by
 intro l
 induction l with
 | nil=>intro _;trivial
 | cons p l ih=>intro h;exact⟨h p List.mem_cons_self,ih fun q hq=>h q (List.mem_cons_of_mem _ hq)⟩
theorem AK.draw2 {id:Nat}(ok:QcL P T)(hN:Qem P C n)(hmix:P.follows .mixedOrders=true)(ds:List Dw)(sts sos ts os:List Nat){sf:List (Nat×V)}{sh:List (Nat×Ob)}{fr:List (Nat×V)}{hp:List (Nat×Ob)}{ri:List (It×Nat)}{ms:List Mut}{B:St}{φ:Prop}
  (hS1:QgT base.fr sts=some sf) (hS2:QgT base.hp sos=some sh)
  (e:QfW P C T n ops ⟨sf,sh⟩ ds ops.toList 0 [] [] base True=some ⟨ri,ms,B,φ⟩) (hφ:φ) (hl:ds.length=ops.size) (hk:okV ops base ⟨sf,sh⟩ ⟨ri,ms,B,φ⟩=true)
  (hf1:QgT (QjF ms ri++B.fr) ts=some fr) (hf2:QgT (QiK ms ri++B.hp) os=some hp) (hc:St.closed ⟨fr,hp⟩=true) (k:AK P C Q (.x .normal) ks ⟨fr,hp⟩):AK P C Q (.c (.region id ops true)) ks base:=by
 have hn:=hN.n
 obtain⟨D,hD⟩:∃D:Dr,D=⟨ri,ms,B,φ⟩:=⟨_,rfl⟩
 rw [←hD]at e hk
 have hφ:D.φ:=by rw [hD];exact hφ
 have hf1:QgT (QjF D.ms D.ri++D.B.fr) ts=some fr:=by rw [hD];exact hf1
 have hf2:QgT (QiK D.ms D.ri++D.B.hp) os=some hp:=by rw [hD];exact hf2
 clear hD
 simp only [okV,Bool.and_eq_true]at hk
 obtain⟨⟨⟨⟨⟨k1,k2⟩,k3⟩,k4⟩,k5⟩,k6⟩:=hk
 obtain⟨_,h2,_,h4,h5,h6,h7⟩:=Qq0 (base:=base) ok hN ds e rfl rfl rfl rfl (fun k it j h=>by simp at h) hφ
 have hlen:(Qaj D.ri).length=ops.size:=by simp [Qaj];omega
 rw [h4]at k4 k5
 have hS:Sub base ⟨sf,sh⟩:=⟨fun t v h=>by
  have:=Qnl hS1 (t,v) (QaH h);exact this,fun p ob h=>by have:=Qnl hS2 (p,ob) (QaH h);exact this⟩
 refine AK.drawV hmix hlen k1 k2 k3 k6 k4 k5 hS (fun i o it ho hit=>h7 i o it (Nat.zero_le _) ho hit) fun σ hsub hadd=>?_
 rw [←h4,←h5]at hsub
 have hadd':∀x fl nf j,(It.add x fl nf,j)∈D.ri→hasV σ x fl (D.ms.drop j):=by
  intro x fl nf j hm
  obtain⟨i,hi⟩:=List.getElem?_of_mem (List.mem_reverse.2 hm)
  have hj:=h6 i _ j hi
  rw [hj,h4]
  refine hadd i x fl nf ?_
  simp only [Qaj,←List.map_reverse,List.getElem?_map,hi,Option.map_some]
 have frOK:∀{ri:List (It×Nat)},(∀q∈ri,q∈D.ri)→∀{t:Nat} {v:V},look (QjF D.ms ri) t=some v→look σ.fr t=some v:=by
  intro ri
  induction ri with
  | nil=>intro _ t v h;cases h
  | cons y ri ih=>
   intro hm t v h
   have hm':=fun q hq=>hm q (List.mem_cons_of_mem _ hq)
   obtain⟨it,j⟩:=y
   cases it with
   | tn M=>exact ih hm' h
   | add x fl nf=>
    rw [QjF]at h
    cases hal:alv x fl (D.ms.drop j)with
    | false=>rw [hal]at h;exact ih hm' h
    | true=>
     rw [hal]at h
     have h:look ((x.d,x.v)::QjF D.ms ri) t=some v:=h
     by_cases e:x.d=t
     ·subst e;rw [Qq]at h;cases h;exact(hadd' x fl nf j (hm _ List.mem_cons_self)).1 hal
     ·rw [Qn _ _ e]at h;exact ih hm' h
 have hpOK:∀{ri:List (It×Nat)},(∀q∈ri,q∈D.ri)→∀{t:Nat} {v:Ob},look (QiK D.ms ri) t=some v→look σ.hp t=some v:=by
  intro ri
  induction ri with
  | nil=>intro _ t v h;cases h
  | cons y ri ih=>
   intro hm t v h
   have hm':=fun q hq=>hm q (List.mem_cons_of_mem _ hq)
   obtain⟨it,j⟩:=y
   cases it with
   | tn M=>exact ih hm' h
   | add x fl nf=>
    rw [QiK]at h
    cases hal:alvO x fl (D.ms.drop j)with
    | false=>rw [hal]at h;exact ih hm' h
    | true=>
     rw [hal]at h
     cases hob:x.ob with
     | none=>rw [hob]at h;exact ih hm' h
     | some ob=>
      rw [hob]at h
      have h:look ((x.d,ob)::QiK D.ms ri) t=some v:=h
      by_cases e:x.d=t
      ·subst e;rw [Qq]at h;cases h;exact(hadd' x fl nf j (hm _ List.mem_cons_self)).2 hal _ hob
      ·rw [Qn _ _ e]at h;exact ih hm' h
 refine AK.weaken (fun a w hR=>hR.to (Quo fun p hp'=>?_) (Qup fun p hp'=>?_) hc) k
 ·have:=Qnl hf1 p hp'
  rw [Qet]at this
  cases hl:look (QjF D.ms D.ri) p.1 with
  | some v=>rw [hl]at this;cases this;exact frOK (fun _ h=>h) hl
  | none=>rw [hl]at this;exact hsub.1 _ _ this
 ·have:=Qnl hf2 p hp'
  rw [Qet]at this
  cases hl:look (QiK D.ms D.ri) p.1 with
  | some v=>rw [hl]at this;cases this;exact hpOK (fun _ h=>h) hl
  | none=>rw [hl]at this;exact hsub.2 _ _ this
end
theorem Stp.callSame {P:Program}{C:Ctx}{T:Tab}{n:Nat}{o:Oper}{md:MD}{f:Operand→Option V}{hp:Nat→Option Ob}{σ:St}{d:Nat}{v:V}{q:Prop}(ok:QcL P T)(hN:Qem P C n)(h1:∀x u,f x=some u→σ.opd x=some u)(h2:∀b u,hp b=some u→look σ.hp b=some u)
  (e:mu1 P C T n md o f hp=some (⟨[],[],some (d,v)⟩,some q)) (hq:q):Stp P C o σ (σ.addF ⟨d,v,none⟩):=Qru (q:=some q) ok hN e hq h1 h2
theorem Qqn {α:Type}{f:α→List V}{l:List α}{k h:Nat}:((l.map f).drop k).take (h-k)=((l.drop k).take (h-k)).map f:=by simp
end Go.Vm
