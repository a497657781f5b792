/- A part of the proof. -/
import Derived.Test.YtdogcfnkpfekmaaGreatDoorM1V2
import Derived.Laws.StructEq
import Derived.Laws.Cover3
import Derived.RangeFuncIn
import Derived.Shelf.Sort.Plain
import Derived.Shelf.Slices.In.SortNone
import Derived.Laws.BytesString
import Derived.Shelf.Slices.CompactI
import Derived.Shelf.Strings.Fields
import Derived.Carry
import Derived.ReadAgain
import Derived.OpenShut
import GoSem.ClaimJoined
import Derived.Lib.LaidTab
import Derived.LaidMore
import Derived.MakeChecks
import Derived.Stop.LaidErr
import Derived.Stop.Joined
import Derived.SizedLaws
import Derived.Handed
import Derived.Shelf.Spec.SlicesInsertGrow
set_option linter.all false
namespace Go.Vm
open Go Go.RowKit
structure Yd where
 kills:List Nat
 sets:List (Nat×Ob)
 put:Option (Nat×V)
def St.sets (σ:St):H_->St
 | []=>σ
 | (o,ob)::r=>(σ.sets r).set o ob
def Yd.run (M:Yd)(σ:St):St:=match M.put with
 | none=>(σ.killL M.kills).sets M.sets
 | some (d,v)=>((σ.killL M.kills).sets M.sets).put d v
def GL (σ B:St):Prop:=(∀t v,look B.fr t=some v->look σ.fr t=some v)/\∀p ob,look B.hp p=some ob->look σ.hp p=some ob
def OZ {b:Nat}:∀(l:S_) (t:Nat),look (Fi b l) t=(look l t).map (V.kill b):=by
 intro l
 induction l with
 | nil=>intro t;rfl
 | cons p l h=>
  obtain⟨k,v⟩:=p
  intro t
  by_cases e:k=t
  ·subst e;rw[Fi,QB,QB];rfl
  rw[Fi,Qy _ _ e,Qy _ _ e];exact h t
def IC {b:Nat}:∀(l:H_) (t:Nat),look (GJ b l) t=if t=b then none else(look l t).map (Ob.kill b):=by
 intro l t
 by_cases h:t=b
 ·rw[if_pos h]
  cases hl:look (GJ b l) t with
  | none=>rfl
  | some ob=>obtain⟨D,_⟩:=YX _ _ _ hl;exact absurd h D
 rw[if_neg h]
 cases hl:look l t with
 | none=>
  cases hk:look (GJ b l) t with
  | none=>rfl
  | some ob=>obtain⟨_,ob',D,_⟩:=YX _ _ _ hk;rw[hl]at D;cases D
 | some ob=>exact Jj _ _ _ h hl
def GL.kill {σ B:St}(h:GL σ B)(b:Nat):GL (σ.kill b) (B.kill b):=by
 refine⟨λt v hv=>?_,λp ob D=>?_⟩
 ·have hv:look (Fi b B.fr) t=some v:=hv
  show look (Fi b σ.fr) t=some v
  rw[OZ]at hv ⊢
  obtain⟨u,hu,rfl⟩:=XX.1 hv
  rw[h.1 t u hu];rfl
 have D:look (GJ b B.hp) p=some ob:=D
 show look (GJ b σ.hp) p=some ob
 rw[IC]at D ⊢
 split at D
 ·cases D
 rename_i hne
 rw[if_neg hne]
 obtain⟨u,hu,rfl⟩:=XX.1 D
 rw[h.2 p u hu];rfl
def GL.killL : ∀{l:L_ Nat} {σ B:St},GL σ B->GL (σ.killL l) (B.killL l):=by
 intro l
 induction l with
 | nil=>intro σ B h;exact h
 | cons b l D=>intro σ B h;exact D (h.kill b)
def GL.set {σ B:St}(h:GL σ B)(o:Nat)(ob:Ob):GL (σ.set o ob) (B.set o ob):=by
 refine⟨h.1,λp u D=>?_⟩
 by_cases e:p=o
 ·subst e;rw[St.look_set_same]at D ⊢;exact D
 rw[St.look_set_other _ _ (Ne.symm e)]at D ⊢;exact h.2 p u D
def GL.sets : ∀{l:H_} {σ B:St},GL σ B->GL (σ.sets l) (B.sets l):=by
 intro l
 induction l with
 | nil=>intro σ B h;exact h
 | cons p l D=>intro σ B h;exact(D h).set p.1 p.2
def GL.put {σ B:St}(h:GL σ B)(d:Nat)(v:V):GL (σ.put d v) (B.put d v):=by
 refine⟨λt u D=>?_,h.2⟩
 have D:look ((d,v)::B.fr) t=some u:=D
 show look ((d,v)::σ.fr) t=some u
 by_cases e:d=t
 ·subst e;rw[QB]at D ⊢;exact D
 rw[Qy _ _ e]at D ⊢;exact h.1 t u D
def GL.run {σ B:St}(h:GL σ B)(M:Yd):GL (M.run σ) (M.run B):=by
 unfold Yd.run
 split
 ·exact h.killL.sets
 exact h.killL.sets.put _ _
def Yd.keeps (M:Yd)(t:Nat)(v:V):Bool:=M.kills.all (λb=>v.free b)&&(match M.put with | none=>true | some (d,_)=>!(Nat.beq d t))
def Yd.keepsO (M:Yd)(p:Nat):Bool:=M.kills.all (λb=>!(Nat.beq b p))&&M.sets.all (λq=>!(Nat.beq q.1 p))
def Ob.keep1 (b:Nat):Ob->Bool
 | .var h=>h.all (V.freeC b)
 | .lp _ _ h _=>h.all (V.freeC b)
 | _=>true
def Qky : ∀{l:L_ Nat} {σ:St} {t:Nat} {v:V},l.all (λb=>v.free b)=true->look σ.fr t=some v->look (σ.killL l).fr t=some v:=by
 intro l
 induction l with
 | nil=>intro σ t v _ h;exact h
 | cons b l ih=>
  intro σ t v D h
  rw[PF,QJ]at D
  refine ih D.2 ?_
  show look (Fi b σ.fr) t=some v
  rw[OZ,h,JD,V.kill,D.1];rfl
def Qg3 : ∀{l:H_} {σ:St},(σ.sets l).fr=σ.fr:=by
 intro l
 induction l with
 | nil=>intro σ;rfl
 | cons p l h=>intro σ;exact h
def Yd.keeps_look {M:Yd}{σ:St}{t:Nat}{v:V}(D:M.keeps t v=true)(h:look σ.fr t=some v):look (M.run σ).fr t=some v:=by
 unfold Yd.keeps at D
 rw[QJ]at D
 have h1:look ((σ.killL M.kills).sets M.sets).fr t=some v:=by rw[Qg3];exact Qky D.1 h
 unfold Yd.run
 split
 ·exact h1
 rename_i d u hp
 rw[hp]at D
 have hne:d≠t:=EU D.2
 show look ((d,u)::_) t=some v
 rw[Qy _ _ hne];exact h1
def Qg4 : ∀{l:L_ Nat} {σ:St} {p:Nat},look σ.hp p=none->look (σ.killL l).hp p=none:=by
 intro l
 induction l with
 | nil=>intro σ p h;exact h
 | cons b l D=>
  intro σ p h
  refine D ?_
  show look (GJ b σ.hp) p=none
  rw[IC,h];simp
def Qi5 : ∀{l:H_} {σ:St} {p:Nat},l.all (λq=>!(Nat.beq q.1 p))=true->look σ.hp p=none->look (σ.sets l).hp p=none:=by
 intro l
 induction l with
 | nil=>intro σ p _ h;exact h
 | cons q l ih=>
  intro σ p D h
  rw[PF,QJ]at D
  show look ((σ.sets l).set q.1 q.2).hp p=none
  rw[St.look_set_other _ _ (EU D.1)];exact ih D.2 h
def Yd.none_look {M:Yd}{σ:St}{p:Nat}(hk:M.sets.all (λq=>!(Nat.beq q.1 p))=true)(h:look σ.hp p=none):look (M.run σ).hp p=none:=by
 have D:look ((σ.killL M.kills).sets M.sets).hp p=none:=Qi5 hk (Qg4 h)
 unfold Yd.run
 split<;>exact D
def Ob.kill_keep {ob:Ob}{b:Nat}(h:ob.keep1 b=true):ob.kill b=ob:=by
 cases ob with
 | var D=>
  simp only[Ob.keep1,XF]at h
  simp only[Ob.kill,Ob.var.injEq]
  conv=>rhs;rw[<-List.map_id D]
  apply List.map_congr_left
  intro v hv
  simp only[V.killC,h v hv,QY,id]
 | lp l K D q=>
  simp only[Ob.keep1,XF]at h
  simp only[Ob.kill,Ob.lp.injEq,true_and,and_true]
  conv=>rhs;rw[<-List.map_id D]
  apply List.map_congr_left
  intro v hv
  simp only[V.killC,h v hv,QY,id]
 | _=>rfl
def Qh9 : ∀{l:L_ Nat} {σ:St} {p:Nat} {ob:Ob},l.all (λb=>!(Nat.beq b p))=true->l.all (λb=>ob.keep1 b)=true->look σ.hp p=some ob->look (σ.killL l).hp p=some ob:=by
 intro l
 induction l with
 | nil=>intro σ p ob _ _ h;exact h
 | cons b l ih=>
  intro σ p ob D hp h
  rw[PF,QJ]at D hp
  refine ih D.2 hp.2 ?_
  show look (GJ b σ.hp) p=some ob
  rw[IC,if_neg (EU D.1).symm,h,JD,Ob.kill_keep hp.1]
def Qi6 : ∀{l:H_} {σ:St} {p:Nat} {ob:Ob},l.all (λq=>!(Nat.beq q.1 p))=true->look σ.hp p=some ob->look (σ.sets l).hp p=some ob:=by
 intro l
 induction l with
 | nil=>intro σ p ob _ h;exact h
 | cons q l ih=>
  intro σ p ob D h
  rw[PF,QJ]at D
  show look ((σ.sets l).set q.1 q.2).hp p=some ob
  rw[St.look_set_other _ _ (EU D.1)];exact ih D.2 h
def Yd.keepsO_look {M:Yd}{σ:St}{p:Nat}{ob:Ob}(D:M.keepsO p=true)(hp:M.kills.all (λb=>ob.keep1 b)=true)(h:look σ.hp p=some ob):look (M.run σ).hp p=some ob:=by
 unfold Yd.keepsO at D
 rw[QJ]at D
 have h1:look ((σ.killL M.kills).sets M.sets).hp p=some ob:=Qi6 D.2 (Qh9 D.1 hp h)
 unfold Yd.run
 split<;>exact h1
section
variable {P:Program}{C:Xx}{Q:Exit->St->Prop}{ops:Array Oper}{σ:St}{ks:L_ Fr}
def QlC (Inv:Array Bool->St->Prop)
  (step:∀D σ i o,D.size=ops.size->Qcl ops D->i∈Region.ready .any ops D->ops[i]? = some o->Inv D σ->∃σ',Jy P C ops o σ σ'/\Inv (D.setIfInBounds i true) σ')
  (hord:QgZ ops=true) (hend:∀D σ,D.size=ops.size->(∀i,i<ops.size->D[i]? = some true)->Inv D σ->∀a w,R C σ a w->up C Q .normal a w):
  ∀(fuel:Nat) (D:Array Bool) (a:Act) (w:World) (σ:St),((List.range ops.size).filter λi=>!(D[i]? == some true)).length<=fuel->D.size=ops.size->Qcl ops D->Inv D σ->R C σ a w->wpAnyIn C.F 0 P .any ops (up C Q) fuel D a w:=by
 intro fuel
 have allOf:∀{D:Array Bool},D.size=ops.size->Region.ready .any ops D=[]->∀i,i<ops.size->D[i]? = some true:=by
  intro D hs hr
  apply Classical.byContradiction
  intro h
  have hex:∃i,i<ops.size/\D[i]? ≠ some true:=by
   apply Classical.byContradiction
   intro h'
   exact h λi hi=>Classical.byContradiction λhn=>h' ⟨i,hi,hn⟩
  obtain⟨k,h1,h2,h3⟩:=QiQ ops.size hex
  have:=QjI hord hs h1 h2 h3
  rw[hr]at this;cases this
 induction fuel with
 | zero=>
  intro D a w σ hf hs hd hI hR
  have hall:∀i,i<ops.size->D[i]? = some true:=λi hi=>by
   have:=Iz.1 (Nat.le_zero.1 hf)
   rw[List.filter_eq_nil_iff]at this
   simpa using this i (Gu.2 hi)
  refine⟨?_,hend D σ hs hall hI a w hR⟩
  rw[List.eq_nil_iff_forall_not_mem]
  intro i hi
  obtain⟨o,ho,hl,_⟩:=(Ns hs).1 hi
  rw[hall i (Uf.1 ho).1]at hl;cases hl
 | succ fuel ih=>
  intro D a w σ hf hs hd hI hR
  refine⟨λhr=>hend D σ hs (allOf hs hr) hI a w hR,λi hi=>?_⟩
  obtain⟨o,ho,hl,hdeps⟩:=(Ns hs).1 hi
  obtain⟨σ',hos,hI'⟩:=step D σ i o hs hd hi ho hI
  have hin:i<D.size:=by rw[hs];exact(Uf.1 ho).1
  have next:∀a' w',R C σ' a' w'->wpAnyIn C.F 0 P .any ops (up C Q) fuel (D.setIfInBounds i true) a' w':=λa' w' hR'=>by
   refine ih _ a' w' σ' ?_ (by simpa using hs) (hd.set hs hi) hI' hR'
   have count:∀(l:L_ Nat),i∈l->(l.filter λj=>!((D.setIfInBounds i true)[j]? == some true)).length+1<=(l.filter λj=>!(D[j]? == some true)).length:=by
    intro l
    have le:∀(l:L_ Nat),(l.filter λj=>!((D.setIfInBounds i true)[j]? == some true)).length<=(l.filter λj=>!(D[j]? == some true)).length:=by
     intro l
     induction l with
     | nil=>simp
     | cons x l ihl=>
      by_cases e:i=x
      ·subst e
       rw[List.filter_cons_of_neg (by simp[Zp,hin]),List.filter_cons_of_pos (by rw[hl];simp)]
       simp;omega
      simp only[Am,QiK e]
      split
      ·simpa using ihl
      exact ihl
    induction l with
    | nil=>intro h;cases h
    | cons x l ihl=>
     intro hm
     by_cases e:i=x
     ·subst e
      rw[List.filter_cons_of_neg (by simp[Zp,hin]),List.filter_cons_of_pos (by rw[hl];simp)]
      have:=le l
      simp;omega
     have hm':i∈l:=by
      rcases Yl.1 hm with h | h
      ·exact absurd h e
      exact h
     have:=ihl hm'
     simp only[Am,QiK e]
     split
     ·simpa using this
     exact this
   have:=count (List.range ops.size) (Gu.2 (by rw[<-hs];exact hin))
   omega
  unfold wpOpIn
  simp only[ho]
  have:=hos a w hR (wpAnyIn C.F 0 P .any ops (up C Q) fuel (D.setIfInBounds i true)) (up C Q) next
  split
  ·rename_i hw;rw[if_pos hw]at this;exact this
  rename_i hw;rw[if_neg hw]at this;exact⟨λ_ _=>trivial,this⟩
def AK.regionInv {id:Nat}(Inv:Array Bool->St->Prop)(hmix:P.follows .mixedOrders=true)
  (step:∀D σ i o,D.size=ops.size->Qcl ops D->i∈Region.ready .any ops D->ops[i]? = some o->Inv D σ->∃σ',Jy P C ops o σ σ'/\Inv (D.setIfInBounds i true) σ')
  (hord:QgZ ops=true) (h0:Inv (Array.replicate ops.size false) σ) (hend:∀D σ',D.size=ops.size->(∀i,i<ops.size->D[i]? = some true)->Inv D σ'->AK P C Q (.x .normal) ks σ'):AK P C Q (.c (.region id ops true)) ks σ:=by
 intro a w hR
 refine wpIn_region_any hmix ?_
 have hR':R C σ a { w with drawn:=w.drawn+1 }:=by
  obtain⟨φ,hr⟩:=hR
  exact⟨φ,hr.step rfl rfl rfl (Jp _) (λ_ _=>rfl)⟩
 refine QlC Inv step hord (λD σ' hs hall hI a w hR=>hend D σ' hs hall hI a w hR) ops.size (Array.replicate ops.size false) a _ σ ?_ (by simp) ?_ h0 hR'
 ·exact Ym (IA _ _) (by simp)
 intro i o _ h
 simp[Array.getElem?_replicate]at h
end
inductive It where
 | add (x:DF) (fl nf:Bool)
 | tn (M:Yd)
def Xq : L_ It->L_ Yd
 | []=>[]
 | .add _ _ _::r=>Xq r
 | .tn M::r=>M::Xq r
def NP (base:St):L_ Yd->St
 | []=>base
 | M::r=>NP (M.run base) r
def QiG (x:DF)(M:Yd):Bool:=match x.ob with | none=>true | some ob=>M.keepsO x.d&&M.kills.all (λb=>ob.keep1 b)
def QiH (x:DF)(M:Yd):Bool:=M.keeps x.d x.v&&QiG x M
def alv (x:DF)(h:Bool)(ms:L_ Yd):Bool:=ms.all (λM=>M.keeps x.d x.v)
def Zu (x:DF)(h:Bool)(ms:L_ Yd):Bool:=ms.all (QiG x)
def NQ (σ:St)(x:DF)(h:Bool)(ms:L_ Yd):Prop:=(alv x h ms=true->look σ.fr x.d=some x.v)/\(Zu x h ms=true->∀ob,x.ob=some ob->look σ.hp x.d=some ob)
def Bm (ops:Array Oper):Nat->Nat->Nat->Bool
 | 0,_,_=>false
 | n+1,i,k=>match ops[k]? with
  | some o=>Lp o i||o.after.toList.any λe=>Region.binds .any e&&Bm ops n i e.on
  | none=>false
def Qa4 (its:L_ It)(p:Nat):Bool:=match its[p]? with
 | some (.tn _)=>true
 | _=>false
def QmW (ops:Array Oper)(its:L_ It):Bool:=(List.range its.length).all λi=>(List.range its.length).all λp=>!(Qa4 its p)||Nat.beq p i ||
 (match its[i]? with | some (.add _ true false)=>true | some _=>bif Nat.ble (p+1) i then Bm ops 8 p i else Bm ops 8 i p | none=>true)
def SY : L_ It->L_ Nat
 | []=>[]
 | .add x _ _::r=>x.d::SY r
 | .tn _::r=>SY r
def HP : L_ Yd->L_ Nat
 | []=>[]
 | M::r=>match M.put with
  | some (d,_)=>d::HP r
  | none=>HP r
def Qi7 : L_ Yd->L_ Nat
 | []=>[]
 | M::r=>M.sets.map Prod.fst++Qi7 r
def Qa5 : L_ It->L_ Nat
 | []=>[]
 | .add x _ _::r=>match x.ob with
  | some _=>x.d::Qa5 r
  | none=>Qa5 r
 | .tn _::r=>Qa5 r
def HQ (ms:L_ Yd):L_ It->Bool
 | []=>true
 | .add x h _::r=>(!h||ms.all (QiH x))&&HQ ms r
 | .tn _::r=>HQ ms r
def Qcv (ms:L_ Yd)(S:St):Bool:=S.fr.all (λp=>ms.all λM=>M.keeps p.1 p.2)&&S.hp.all (λp=>ms.all λM=>M.keepsO p.1&&M.kills.all (λb=>p.2.keep1 b))
def Qi8 (base:St)(its:L_ It):Bool:=BD (SY its)&&(SY its).all (λd=>!(XD (keys base.fr) d)&&!(XD (HP (Xq its)) d)) &&
 (Qa5 its).all (λd=>!(XD (keys base.hp) d))
def Qkz (ops:Array Oper)(its:L_ It):Bool:=(List.range its.length).all λi=>(List.range its.length).all λp=>match its[i]? with
 | some (.add x _ _)=>match its[p]? with
  | some (.tn M)=>x.ob.isNone||!(XD (M.sets.map Prod.fst) x.d)||Bm ops 8 i p
  | _=>true
 | _=>true
section
variable {P:Program}{C:Xx}{Q:Exit->St->Prop}{ops:Array Oper}{ks:L_ Fr}{base S:St}{its:L_ It}
def j0 (its:L_ It)(k:Nat):Nat:=(Xq (its.take k)).length
def ZW (P:Program)(C:Xx)(ops:Array Oper)(base S:St)(its:L_ It)(i:Nat)(o:Oper):It->Prop
 | .add x h D=>match h&&!D with
  | false=>∀σ,GL σ (NP base ((Xq its).take (j0 its i)))->(∀k y h D,its[k]? = some (.add y h D)->Lp o k=true->NQ σ y h (((Xq its).take (j0 its i)).drop (j0 its k)))->(x.ob.isSome=true->look σ.hp x.d=none)->Jy P C ops o σ (σ.addF x)
  | true=>∀σ,GL σ S->(∀k y D,its[k]? = some (.add y true D)->Lp o k=true->QaS σ y)->(x.ob.isSome=true->look σ.hp x.d=none)->Jy P C ops o σ (σ.addF x)
 | .tn M=>∀σ,GL σ (NP base ((Xq its).take (j0 its i)))->(∀k y h D,its[k]? = some (.add y h D)->Lp o k=true->NQ σ y h (((Xq its).take (j0 its i)).drop (j0 its k)))->Jy P C ops o σ (M.run σ)
def BF {D:Array Bool}(hd:Qcl ops D):∀(n:Nat) {i k:Nat},Bm ops n i k=true->D[k]? = some true->D[i]? = some true:=by
 intro n
 induction n with
 | zero=>intro i k h;cases h
 | succ n ih=>
  intro i k h hk
  rw[Bm]at h
  split at h
  ·rename_i o ho
   rw[Wv]at h
   rcases h with h | h
   ·simp only[Lp,Iw,QJ]at h
    obtain⟨e,he,hb,hon⟩:=h
    have:=hd k o ho hk e (QeE.1 he) hb
    rwa[YE hon]at this
   simp only[Iw,QJ]at h
   obtain⟨e,he,hb,hm⟩:=h
   exact ih hm (hd k o ho hk e (QeE.1 he) hb)
  cases h
def Qev {D:Array Bool}(hs:D.size=ops.size)(hd:Qcl ops D){n i k:Nat}(h:Bm ops n i k=true)(hk:k∈Region.ready .any ops D):D[i]? = some true:=by
 obtain⟨o,ho,hl,hdeps⟩:=(Ns hs).1 hk
 cases n with
 | zero=>cases h
 | succ n=>
  rw[Bm,ho]at h
  dsimp only at h
  rw[Wv]at h
  rcases h with h | h
  ·simp only[Lp,Iw,QJ]at h
   obtain⟨e,he,hb,hon⟩:=h
   have:=hdeps e (QeE.1 he) hb
   rwa[YE hon]at this
  simp only[Iw,QJ]at h
  obtain⟨e,he,hb,hm⟩:=h
  exact BF hd n hm (hdeps e (QeE.1 he) hb)
def Aa : ∀{l m:L_ It},Xq (l++m)=Xq l++Xq m:=by
 intro l
 induction l with
 | nil=>intro m;rfl
 | cons x l h=>intro m;cases x<;>simp[Xq,h]
def QfQ {ms h:L_ Yd}:∀{B:St},NP B (ms++h)=NP (NP B ms) h:=by
 induction ms with
 | nil=>intro B;rfl
 | cons M ms D=>intro B;exact D
def QkA {its:L_ It}{i:Nat}{M:Yd}(h:its[i]? = some (.tn M)):(Xq its)[j0 its i]? = some M/\(Xq its).take (j0 its i+1)=(Xq its).take (j0 its i)++[M]:=by
 have D:=(Xa.1 h).1
 have e:its=its.take i++(.tn M::its.drop (i+1)):=by
  have:its.drop i=its[i]::its.drop (i+1):=Mr D
  have h2:its[i]=.tn M:=by have:=Qx D;rw[h]at this;exact(Option.some.inj this).symm
  rw[h2]at this
  rw[<-this,List.take_append_drop]
 have e2:Xq its=Xq (its.take i)++(M::Xq (its.drop (i+1))):=by
  conv=>lhs;rw[e]
  rw[Aa];rfl
 unfold j0
 rw[e2]
 refine⟨by simp,?_⟩
 rw[List.take_append,List.take_append]
 simp[Kl]
def QkB {σ:St}{x:DF}{M:Yd}(hk:QiH x M=true)(h:QaS σ x):QaS (M.run σ) x:=by
 unfold QiH QiG at hk
 rw[QJ]at hk
 refine⟨Yd.keeps_look hk.1 h.1,λob hob=>?_⟩
 rw[hob]at hk
 have D:=hk.2
 dsimp only at D
 rw[QJ]at D
 exact Yd.keepsO_look D.1 D.2 (h.2 ob hob)
def NQ.of {σ:St}{x:DF}{D:Bool}{ms:L_ Yd}(h:QaS σ x):NQ σ x D ms:=⟨λ_=>h.1,λ_=>h.2⟩
def NQ.run {σ:St}{x:DF}{fl:Bool}{ms:L_ Yd}{M:Yd}(h:NQ σ x fl ms):NQ (M.run σ) x fl (ms++[M]):=by
 refine⟨λD=>?_,λD ob hob=>?_⟩
 ·simp only[alv,List.all_append,QJ,PF,List.all_nil,Bool.and_true]at D
  exact Yd.keeps_look D.2 (h.1 (by simp only[alv];exact D.1))
 simp only[Zu,List.all_append,QJ,PF,List.all_nil,Bool.and_true]at D
 have h1:=h.2 (by simp only[Zu];exact D.1) ob hob
 have hk:=D.2
 unfold QiG at hk
 rw[hob]at hk
 dsimp only at hk
 rw[QJ]at hk
 exact Yd.keepsO_look hk.1 hk.2 h1
def QlD {p:Nat}{M:Yd}(h:its[p]? = some (.tn M)):j0 its (p+1)=j0 its p+1:=by
 have D:=(Xa.1 h).1
 unfold j0
 rw[DV,h,Aa];simp[Xq]
def QfR : ∀{a b:Nat},a<=b->j0 its a<=j0 its b:=by
 intro a b h
 unfold j0
 obtain⟨c,rfl⟩:=Nat.exists_eq_add_of_le h
 rw[List.take_add,Aa];simp
def QkC {p i:Nat}{M:Yd}(h:its[p]? = some (.tn M))(D:p<i):j0 its p<j0 its i:=by
 have:=QlD h
 have:=QfR (its:=its) (show p+1<=i from D)
 omega
def Qdy : ∀{its:L_ It} {c:Nat},c<(Xq its).length->∃p M,its[p]? = some (.tn M)/\j0 its p=c:=by
 intro its
 induction its with
 | nil=>intro c h;simp[Xq]at h
 | cons it its ih=>
  intro c h
  cases it with
  | add x fl=>
   obtain⟨p,M,D,h2⟩:=ih (c:=c) h
   exact⟨p+1,M,by simpa using D,by simpa[j0,Xq] using h2⟩
  | tn M=>
   cases c with
   | zero=>exact⟨0,M,rfl,by simp[j0,Xq]⟩
   | succ c=>
    obtain⟨p,M',D,h2⟩:=ih (c:=c) (by simpa[Xq] using h)
    exact⟨p+1,M',by simpa using D,by simpa[j0,Xq] using h2⟩
def Qi9 {p:Nat}{M:Yd}(h:its[p]? = some (.tn M)):j0 its p<(Xq its).length:=(Xa.1 (QkA h).1).1
def GL.stable : ∀{ms:L_ Yd} {B S:St},Qcv ms S=true->GL B S->∀n,GL (NP B (ms.take n)) S:=by
 intro ms
 induction ms with
 | nil=>intro B S _ h n;simpa[NP] using h
 | cons M ms ih=>
  intro B S D h n
  cases n with
  | zero=>exact h
  | succ n=>
   unfold Qcv at D
   rw[QJ,XF,XF]at D
   refine ih (B:=M.run B) ?_ ⟨λt v hv=>?_,λp ob hob=>?_⟩ n
   ·unfold Qcv
    rw[QJ,XF,XF]
    exact⟨λp hp=>by have:=D.1 p hp;rw[PF,QJ]at this;exact this.2,λp hp=>by have:=D.2 p hp;rw[PF,QJ]at this;exact this.2⟩
   ·have:=D.1 (t,v) (YY hv)
    rw[PF,QJ]at this
    exact Yd.keeps_look this.1 (h.1 t v hv)
   have:=D.2 (p,ob) (YY hob)
   rw[PF,QJ,QJ]at this
   exact Yd.keepsO_look this.1.1 this.1.2 (h.2 p ob hob)
def Qa6 : ∀{its:L_ It} {i:Nat} {x:DF} {fl nf:Bool},its[i]? = some (.add x fl nf)->x.d∈SY its/\(x.ob.isSome=true->x.d∈Qa5 its):=by
 intro its
 induction its with
 | nil=>intro i x fl nf h;simp at h
 | cons it its ih=>
  intro i x fl nf h
  cases i with
  | zero=>
   simp at h;subst h
   refine⟨XR,λD=>?_⟩
   rw[Qa5];split
   ·exact XR
   rename_i he;rw[he]at D;cases D
  | succ i=>
   obtain⟨a,b⟩:=ih (i:=i) (by simpa using h)
   cases it with
   | add y fl' nf'=>
    refine⟨XZ _ a,λD=>?_⟩
    rw[Qa5];split
    ·exact XZ _ (b D)
    exact b D
   | tn M=>exact⟨a,b⟩
def QeH : ∀{its:L_ It},(SY its).Nodup->∀{i k:Nat} {x y:DF} {fl D nf nf':Bool},its[i]? = some (.add x fl nf)->its[k]? = some (.add y D nf')->x.d=y.d->i=k:=by
 intro its
 induction its with
 | nil=>intro _ i k x y fl D nf nf' h;simp at h
 | cons it its ih=>
  intro hn i k x y fl D nf nf' hi hk e
  cases it with
  | tn M=>
   cases i with
   | zero=>simp at hi
   | succ i=>cases k with
    | zero=>simp at hk
    | succ k=>rw[ih hn (i:=i) (k:=k) (by simpa using hi) (by simpa using hk) e]
  | add z f g=>
   rw[SY,Ez]at hn
   cases i with
   | zero=>
    cases k with
    | zero=>rfl
    | succ k=>
     simp at hi;obtain⟨rfl,rfl,rfl⟩:=hi
     exact absurd (by rw[e];exact(Qa6 (i:=k) (by simpa using hk)).1) hn.1
   | succ i=>
    cases k with
    | zero=>
     simp at hk;obtain⟨rfl,rfl,rfl⟩:=hk
     exact absurd (by rw[<-e];exact(Qa6 (i:=i) (by simpa using hi)).1) hn.1
    | succ k=>rw[ih hn.2 (i:=i) (k:=k) (by simpa using hi) (by simpa using hk) e]
def QmX {M:Yd}{B:St}{t:Nat}{v:V}(h:look (M.run B).fr t=some v):(∃u,look B.fr t=some u)\/∃u,M.put=some (t,u):=by
 have kill:∀{l:L_ Nat} {B:St} {v:V},look (B.killL l).fr t=some v->∃u,look B.fr t=some u:=by
  intro l
  induction l with
  | nil=>intro B v h;exact⟨v,h⟩
  | cons b l ih=>
   intro B v h
   obtain⟨u,D⟩:=ih h
   have D:look (Fi b B.fr) t=some u:=D
   rw[OZ]at D
   obtain⟨w,hw,_⟩:=XX.1 D
   exact⟨w,hw⟩
 unfold Yd.run at h
 split at h
 ·rw[Qg3]at h;exact .inl (kill h)
 rename_i d u hp
 by_cases e:d=t
 ·subst e;exact .inr ⟨u,hp⟩
 have h:look ((d,u)::((B.killL M.kills).sets M.sets).fr) t=some v:=h
 rw[Qy _ _ e,Qg3]at h;exact .inl (kill h)
def QlE {M:Yd}{B:St}{p:Nat}{ob:Ob}(h:look (M.run B).hp p=some ob):(∃u,look B.hp p=some u)\/p∈M.sets.map Prod.fst:=by
 have kill:∀{l:L_ Nat} {B:St} {ob:Ob},look (B.killL l).hp p=some ob->∃u,look B.hp p=some u:=by
  intro l
  induction l with
  | nil=>intro B ob h;exact⟨ob,h⟩
  | cons b l ih=>
   intro B ob h
   obtain⟨u,D⟩:=ih h
   have D:look (GJ b B.hp) p=some u:=D
   rw[IC]at D
   split at D
   ·cases D
   obtain⟨w,hw,_⟩:=XX.1 D
   exact⟨w,hw⟩
 have sets:∀{l:H_} {B:St} {ob:Ob},look (B.sets l).hp p=some ob->(∃u,look B.hp p=some u)\/p∈l.map Prod.fst:=by
  intro l
  induction l with
  | nil=>intro B ob h;exact .inl ⟨ob,h⟩
  | cons q l ih=>
   intro B ob h
   by_cases e:q.1=p
   ·exact .inr (by rw[Gt,e];exact XR)
   have h:look ((B.sets l).set q.1 q.2).hp p=some ob:=h
   rw[St.look_set_other _ _ e]at h
   exact(ih h).imp id (XZ _)
 have h1:look ((B.killL M.kills).sets M.sets).hp p=some ob:=by
  unfold Yd.run at h
  split at h<;>exact h
 rcases sets h1 with⟨u,D⟩|h2
 ·exact .inl (kill D)
 exact .inr h2
def QmY : ∀{ms:L_ Yd} {B:St} {t:Nat} {v:V},look (NP B ms).fr t=some v->(∃u,look B.fr t=some u)\/t∈HP ms:=by
 intro ms
 induction ms with
 | nil=>intro B t v h;exact .inl ⟨v,h⟩
 | cons M ms ih=>
  intro B t v h
  rcases ih h with⟨u,D⟩|h
  ·rcases QmX D with h | ⟨u,hp⟩
   ·exact .inl h
   refine .inr ?_;rw[HP,hp];exact XR
  refine .inr ?_;rw[HP];split
  ·exact XZ _ h
  exact h
def QlF : ∀{ms:L_ Yd} {B:St} {p:Nat} {ob:Ob},look (NP B ms).hp p=some ob->(∃u,look B.hp p=some u)\/p∈Qi7 ms:=by
 intro ms
 induction ms with
 | nil=>intro B p ob h;exact .inl ⟨ob,h⟩
 | cons M ms ih=>
  intro B p ob h
  rcases ih h with⟨u,D⟩|h
  ·rcases QlE D with h | h
   ·exact .inl h
   exact .inr (PH _ h)
  exact .inr (List.mem_append_right _ h)
def QjM : ∀{ms:L_ Yd} {n t:Nat},t∈HP (ms.take n)->t∈HP ms:=by
 intro ms
 induction ms with
 | nil=>intro n t h;simpa using h
 | cons M ms D=>
  intro n t h
  cases n with
  | zero=>simp[HP]at h
  | succ n=>
   rw[List.take_succ_cons,HP]at h
   rw[HP]
   split at h
   ·rcases Yl.1 h with rfl | h
    ·exact XR
    exact XZ _ (D h)
   exact D h
def Qp5 (base:St)(its:L_ It)(h:Array Bool)(σ:St):Prop:=∃j,j<=(Xq its).length/\(∀p M,its[p]? = some (.tn M)->(h[p]? = some true↔j0 its p<j))/\GL σ (NP base ((Xq its).take j))/\
 ∀i x D nf,its[i]? = some (.add x D nf)->(h[i]? = some true->NQ σ x D (((Xq its).take j).drop (j0 its i)))/\(h[i]? ≠ some true->x.ob.isSome=true->look σ.hp x.d=none)/\(D=true->h[i]? = some true->HQ (Xq its) its=true\/j<(Xq its).length->QaS σ x)
def QoH (ops:Array Oper)(its:L_ It):Bool:=Qa4 its (its.length-1)&&(List.range (its.length-1)).all λi=>Bm ops 8 i (its.length-1)
def Qg5 (ops:Array Oper)(ms:L_ Yd)(its:L_ It):Bool:=HQ ms its||(HQ (ms.take (ms.length-1)) its&&QoH ops its)
def QmZ (its:L_ It)(i:Nat):Bool:=match its[i]? with
 | some (.add _ true false)=>true
 | _=>false
def endB (ops:Array Oper)(its:L_ It)(p:Nat):Bool:=Qa4 its p&&Nat.beq (j0 its p+1) (Xq its).length&&(List.range its.length).all λi=>!QmZ its i||Bm ops 8 i p
def Qg6 (ops:Array Oper)(its:L_ It)(ms:L_ Yd)(S:St):Bool:=Qcv ms S||(Qcv (ms.take (ms.length-1)) S&&(List.range its.length).any (endB ops its))
def AK.drawV {id:Nat}(hmix:P.follows .mixedOrders=true)(hlen:its.length=ops.size)(hord:QgZ ops=true)(hov:QmW ops its=true)(hap:Qi8 base its=true)(hsv:Qkz ops its=true)(hfk:Qg5 ops (Xq its) its=true)(hsk:Qg6 ops its (Xq its) S=true)(hS:GL base S)
  (steps:∀i o it,ops[i]? = some o->its[i]? = some it->ZW P C ops base S its i o it)
  (k:∀σ,GL σ (NP base (Xq its))->(∀i x fl nf,its[i]? = some (.add x fl nf)->NQ σ x fl ((Xq its).drop (j0 its i)))->AK P C Q (.x .normal) ks σ):AK P C Q (.c (.region id ops true)) ks base:=by
 simp only[Qi8,QJ,XF,UA]at hap
 obtain⟨⟨hnd,hd1⟩,hd2⟩:=hap
 have hnd:=Du.1 hnd
 have ord:∀i p it M,its[i]? = some it->its[p]? = some (.tn M)->p≠i->(∀x,it≠.add x true false)->(p<i->Bm ops 8 p i=true)/\(i<p->Bm ops 8 i p=true):=by
  intro i p it M hi hp hne hnf
  have hil:=(Xa.1 hi).1
  have hpl:=(Xa.1 hp).1
  unfold QmW at hov
  rw[XF]at hov
  have h1:=hov i (Gu.2 hil)
  rw[XF]at h1
  have h2:=h1 p (Gu.2 hpl)
  have hm:Qa4 its p=true:=by unfold Qa4;rw[hp]
  have hb:Nat.beq p i=false:=by cases hb:Nat.beq p i with
   | true=>exact absurd (YE hb) hne
   | false=>rfl
  rw[hm,hb,hi]at h2
  simp only[GV,Bool.false_or]at h2
  have h3:(bif Nat.ble (p+1) i then Bm ops 8 p i else Bm ops 8 i p)=true:=by
   cases it with
   | add x fl nf=>cases fl with
    | true=>cases nf with
     | false=>exact absurd rfl (hnf x)
     | true=>exact h2
    | false=>exact h2
   | tn M=>exact h2
  refine⟨λh=>?_,λh=>?_⟩
  ·rw[show Nat.ble (p+1) i=true from NI h]at h3;exact h3
  have:Nat.ble (p+1) i=false:=by cases hc:Nat.ble (p+1) i with
   | true=>have:=JN hc;omega
   | false=>rfl
  rw[this]at h3;exact h3
 have sets:∀(i p:Nat) (x:DF) (fl nf:Bool) (M:Yd),its[i]? = some (.add x fl nf)->its[p]? = some (.tn M)->x.ob.isSome=true->x.d∈M.sets.map Prod.fst->Bm ops 8 i p=true:=by
  intro i p x fl nf M hi hp hob hmem
  have hil:=(Xa.1 hi).1
  have hpl:=(Xa.1 hp).1
  unfold Qkz at hsv
  rw[XF]at hsv
  have h1:=hsv i (Gu.2 hil)
  rw[XF]at h1
  have h2:=h1 p (Gu.2 hpl)
  rw[hi,hp]at h2
  dsimp only at h2
  rw[HL.2 hmem]at h2
  have:x.ob.isNone=false:=by cases hx:x.ob with
   | none=>rw[hx]at hob;cases hob
   | some=>rfl
  rw[this]at h2
  simpa using h2
 have memSets:∀{ms:L_ Yd} {d:Nat},d∈Qi7 ms->∃(c:Nat) (M:Yd),ms[c]? = some M/\d∈M.sets.map Prod.fst:=by
  intro ms
  induction ms with
  | nil=>intro d h;cases h
  | cons N ms ih=>
   intro d h
   rcases YI.1 h with h | h
   ·exact⟨0,N,rfl,h⟩
   obtain⟨c,M,h1,h2⟩:=ih h;exact⟨c+1,M,by simpa using h1,h2⟩
 have all:∀{l:L_ It} {ms:L_ Yd},HQ ms l=true->∀{q:Nat} {y:DF} {nf:Bool},l[q]? = some (.add y true nf)->ms.all (QiH y)=true:=by
  intro l
  induction l with
  | nil=>intro ms _ q y nf h;simp at h
  | cons it l ih=>
   intro ms h q y nf hq
   cases it with
   | add z f g=>
    rw[HQ,QJ]at h
    cases q with
    | zero=>simp at hq;obtain⟨rfl,rfl,rfl⟩:=hq;simpa using h.1
    | succ q=>exact ih h.2 (by simpa using hq)
   | tn M=>
    cases q with
    | zero=>simp at hq
    | succ q=>exact ih h (by simpa using hq)
 have lst:HQ (Xq its) its=true\/(HQ ((Xq its).take ((Xq its).length-1)) its=true/\(∃M,its[its.length-1]? = some (.tn M)/\j0 its (its.length-1)+1=(Xq its).length)/\∀i,i<its.length-1->Bm ops 8 i (its.length-1)=true):=by
  unfold Qg5 at hfk
  rw[Wv,QJ]at hfk
  refine hfk.imp_right λh=>⟨h.1,?_⟩
  have h2:=h.2
  unfold QoH at h2
  rw[QJ,XF]at h2
  obtain⟨p1,p2⟩:=h2
  refine⟨?_,λi hi=>p2 i (Gu.2 hi)⟩
  unfold Qa4 at p1
  split at p1
  ·rename_i M hM
   refine⟨M,hM,?_⟩
   have h3:=QlD hM
   have hl:=(Xa.1 hM).1
   have h4:j0 its its.length=(Xq its).length:=by unfold j0;rw[Hc]
   rw[show its.length-1+1=its.length by omega]at h3
   omega
  cases p1
 refine AK.regionInv (Qp5 base its) hmix ?_ hord ?_ ?_
 ·intro D σ i o hs hd hi ho ⟨j,hj,hmu,hsub,hadd⟩
  obtain⟨o',ho',hl,hdeps⟩:=(Ns hs).1 hi
  rw[ho]at ho';cases ho'
  have hio:i<ops.size:=(Uf.1 ho).1
  have hil:i<its.length:=by omega
  have hin:i<D.size:=by omega
  obtain⟨it,hit⟩:∃it,its[i]? = some it:=⟨_,Qx hil⟩
  have hnl:D[i]? ≠ some true:=by rw[hl];simp
  have hst:=steps i o it ho hit
  have depsL:∀{q:Nat},Lp o q=true->D[q]? = some true:=λhdep=>by
   simp only[Lp,Iw,QJ]at hdep
   obtain⟨e,he,hb,hon⟩:=hdep
   have:=hdeps e (QeE.1 he) hb
   rwa[YE hon]at this
  have stage:(∀x,it≠.add x true false)->j=j0 its i:=by
   intro hnf
   apply Nat.le_antisymm
   ·rcases Df (j0 its i) j with hlt | h
    ·obtain⟨p,M,hp,hpj⟩:=Qdy (its:=its) (c:=j0 its i) (by omega)
     have hpl:D[p]? = some true:=(hmu p M hp).2 (by omega)
     rcases Nat.lt_trichotomy p i with h | h | h
     ·have:=QkC hp h;omega
     ·subst h;exact absurd hpl hnl
     have hm:=(ord i p it M hit hp (by omega) hnf).2 h
     exact absurd (BF hd 8 hm hpl) hnl
    exact h
   rcases Nat.eq_zero_or_pos (j0 its i)with h | h
   ·omega
   have hle:j0 its i<=(Xq its).length:=by
    have h1:=QfR (its:=its) (show i<=its.length by omega)
    have h2:j0 its its.length=(Xq its).length:=by unfold j0;rw[Hc]
    omega
   obtain⟨p,M,hp,hpj⟩:=Qdy (its:=its) (c:=j0 its i-1) (by omega)
   have hpi:p<i:=by
    rcases Nat.lt_trichotomy p i with h' | h' | h'
    ·exact h'
    ·subst h';omega
    have:=QfR (its:=its) (Nat.le_of_lt h');omega
   have hm:=(ord i p it M hit hp (by omega) hnf).1 hpi
   have:=(hmu p M hp).1 (Qev hs hd hm hi)
   omega
  have setL:∀q,(D.setIfInBounds i true)[q]? = some true↔q=i\/D[q]? = some true:=λq=>by
   by_cases e:i=q
   ·subst e;simp[Zp,hin]
   rw[QiK e];simp[Ne.symm e]
  cases it with
  | tn M=>
   have hjj:=stage λx e=>by cases e
   subst hjj
   have hM:=QkA hit
   have hos:Jy P C ops o σ (M.run σ):=hst σ hsub λq y fl nf hq hdep=>(hadd q y fl nf hq).1 (depsL hdep)
   have flt:∀{q:Nat} {y:DF} {fl nf:Bool},fl=true->D[q]? = some true->its[q]? = some (.add y fl nf)->HQ (Xq its) its=true\/j0 its i+1<(Xq its).length->QaS (M.run σ) y:=by
    intro q y fl nf hfl hql hq hz
    subst hfl
    have h1:=(hadd q y true nf hq).2.2 rfl hql (hz.imp_right λh=>by omega)
    refine QkB ?_ h1
    rcases lst with h | ⟨h,_,_⟩
    ·exact XF.1 (all h hq) M (XE hM.1)
    rcases hz with hz | hz
    ·exact XF.1 (all hz hq) M (XE hM.1)
    refine XF.1 (all h hq) M (XE (i:=j0 its i) ?_)
    rw[List.getElem?_take_of_lt (by omega)];exact hM.1
   refine⟨_,hos,j0 its i+1,by have:=Qi9 hit;omega,λp M' hp=>?_,?_,λq y fl nf hq=>⟨λhql=>?_,λhql hob=>?_,λhfl hql hz=>?_⟩⟩
   ·rw[setL]
    constructor
    ·rintro (rfl | h)
     ·omega
     have:=(hmu p M' hp).1 h;omega
    intro h
    rcases Df (j0 its p) (j0 its i)with h1 | h1
    ·exact .inr ((hmu p M' hp).2 h1)
    left
    rcases Nat.lt_trichotomy p i with h' | h' | h'
    ·have:=QkC hp h';omega
    ·exact h'
    have:=QkC hit h';omega
   ·rw[hM.2,QfQ];exact hsub.run M
   ·rcases(setL q).1 hql with rfl | hql
    ·rw[hit]at hq;cases hq
    rcases Df (j0 its i) (j0 its q)with hlt | hle
    ·cases fl with
     | true=>
      refine NQ.of (flt rfl hql hq ?_)
      rcases lst with h | ⟨_,⟨M',hp,hpj⟩,_⟩
      ·exact .inl h
      right
      have hqi:q<=its.length-1:=by have:=(Xa.1 hq).1;omega
      have:=QfR (its:=its) hqi
      omega
     | false=>
      exfalso
      have hiq:i<q:=by
       rcases Df i q with h | h
       ·exact h
       have:=QfR (its:=its) h;omega
      have hm:=(ord q i _ M hq hit (by omega) (λx e=>by cases e)).1 hiq
      exact absurd (BF hd 8 hm hql) hnl
    rw[hM.2,List.drop_append_of_le_length (by simp;have:=Qi9 hit;omega)]
    exact((hadd q y fl nf hq).1 hql).run
   ·have hqi:q≠i:=λe=>by subst e;rw[hit]at hq;cases hq
    have hql':D[q]? ≠ some true:=λh=>hql ((setL q).2 (.inr h))
    refine Yd.none_look ?_ ((hadd q y fl nf hq).2.1 hql' hob)
    rw[XF]
    intro r hr
    cases hb:Nat.beq r.1 y.d with
    | false=>rfl
    | true=>
     have hm:=sets q i y fl nf M hq hit hob (by rw[<-YE hb];exact List.mem_map_of_mem hr)
     exact absurd (Qev hs hd hm hi) hql'
   refine flt hfl ((setL q).1 hql |>.resolve_left λe=>by subst e;rw[hit]at hq;cases hq) hq hz
  | add x fl nf=>
   have hfresh:x.ob.isSome=true->look σ.hp x.d=none:=(hadd i x fl nf hit).2.1 hnl
   have hos:Jy P C ops o σ (σ.addF x):=by
    have hB:¬(fl=true/\nf=false)->(∀σ,GL σ (NP base ((Xq its).take (j0 its i)))->(∀k y fl nf,its[k]? = some (.add y fl nf)->Lp o k=true->NQ σ y fl (((Xq its).take (j0 its i)).drop (j0 its k)))->(x.ob.isSome=true->look σ.hp x.d=none)->Jy P C ops o σ (σ.addF x))->Jy P C ops o σ (σ.addF x):=λhne hst=>by
     have hjj:=stage λy e=>by cases e;exact hne ⟨rfl,rfl⟩
     subst hjj
     exact hst σ hsub (λq y fl nf hq hdep=>(hadd q y fl nf hq).1 (depsL hdep)) hfresh
    cases fl with
    | true=>cases nf with
     | false=>
      have h1:GL base S:=hS
      have hZ:HQ (Xq its) its=true\/j<(Xq its).length:=by
       refine lst.imp_right λ⟨_,⟨M,hp,hpj⟩,hall⟩=>?_
       rcases Df j (Xq its).length with h | h
       ·exact h
       exfalso
       have hpl:=(hmu _ M hp).2 (by omega)
       have hne:i≠its.length-1:=λe=>by rw[<-e,hit]at hp;cases hp
       exact absurd (BF hd 8 (hall i (by omega)) hpl) hnl
      have h2:GL (NP base ((Xq its).take j)) S:=by
       unfold Qg6 at hsk
       rw[Wv]at hsk
       rcases hsk with hsk | hsk
       ·exact GL.stable hsk h1 j
       rw[QJ,Iw]at hsk
       obtain⟨hs1,p,_,hp⟩:=hsk
       unfold endB at hp
       simp only[QJ]at hp
       obtain⟨⟨p1,p2⟩,p3⟩:=hp
       have hjm:j<=(Xq its).length-1:=by
        rcases Df ((Xq its).length-1) j with hlt | h
        ·exfalso
         obtain⟨M,hM⟩:∃M,its[p]? = some (.tn M):=by
          unfold Qa4 at p1
          split at p1
          ·exact⟨_,‹_›⟩
          cases p1
         have p2:=YE p2
         have hpl:=(hmu p M hM).2 (by omega)
         have h3:=XF.1 p3 i (Gu.2 hil)
         have hf:QmZ its i=true:=by unfold QmZ;rw[hit]
         rw[hf]at h3
         exact absurd (BF hd 8 h3 hpl) hnl
        exact h
       have h4:=GL.stable hs1 h1 j
       rwa[List.take_take,Fe hjm]at h4
      exact hst σ ⟨λt v h=>hsub.1 t v (h2.1 t v h),λp ob h=>hsub.2 p ob (h2.2 p ob h)⟩ (λq y nf hq hdep=>(hadd q y true nf hq).2.2 rfl (depsL hdep) hZ) hfresh
     | true=>exact hB (λe=>by cases e.2) hst
    | false=>exact hB (λe=>by cases e.1) hst
   obtain⟨hmd,hmo⟩:=Qa6 hit
   have frK:∀t v,t≠x.d->look σ.fr t=some v->look (σ.addF x).fr t=some v:=by
    intro t v hne h
    unfold St.addF
    split
    ·show look ((x.d,x.v)::σ.fr) t=some v
     rw[Qy _ _ (Ne.symm hne)];exact h
    show look ((x.d,x.v)::σ.fr) t=some v
    rw[Qy _ _ (Ne.symm hne)];exact h
   have hpK:∀p,(p≠x.d\/x.ob=none)->look (σ.addF x).hp p=look σ.hp p:=by
    intro p hne
    unfold St.addF
    split
    ·rfl
    rename_i ob hob
    rcases hne with hne | hne
    ·exact σ.look_set_other _ (Ne.symm hne)
    rw[hob]at hne;cases hne
   refine⟨_,hos,j,hj,λp M hp=>?_,⟨λt v h=>?_,λp ob h=>?_⟩,λq y fl' nf' hq=>⟨λhql=>?_,λhql hob=>?_,λhfl hql hz=>?_⟩⟩
   ·rw[setL,<-hmu p M hp]
    have:p≠i:=λe=>by subst e;rw[hit]at hp;cases hp
    simp[this]
   ·refine frK t v (λe=>?_) (hsub.1 t v h)
    subst e
    have h1:=hd1 _ hmd
    rcases QmY h with⟨u,hu⟩|h2
    ·rw[SR hu]at h1;cases h1.1
    rw[HL.2 (QjM h2)]at h1;cases h1.2
   ·have hne:p≠x.d\/x.ob=none:=by
     cases hob:x.ob with
     | none=>exact .inr rfl
     | some ob'=>
      refine .inl λe=>?_
      subst e
      have hob':x.ob.isSome=true:=by rw[hob];rfl
      have h1:=hd2 _ (hmo hob')
      rcases QlF h with⟨u,hu⟩|h2
      ·rw[SR hu]at h1;cases h1
      obtain⟨c,M,h3,h4⟩:=memSets h2
      have hc:c<j:=by
       have:=(Xa.1 h3).1
       simp at this;omega
      have h3':(Xq its)[c]? = some M:=by rw[List.getElem?_take_of_lt hc]at h3;exact h3
      obtain⟨p',M',hp',hpc⟩:=Qdy (its:=its) (c:=c) (Xa.1 h3').1
      have h5:=(QkA hp').1
      rw[hpc,h3']at h5;cases h5
      have hm:=sets i p' x fl nf M hit hp' hob' h4
      exact absurd (BF hd 8 hm ((hmu p' M hp').2 (by omega))) hnl
    rw[hpK p hne];exact hsub.2 p ob h
   ·by_cases e:q=i
    ·subst e
     rw[hit]at hq;cases hq
     refine NQ.of ⟨?_,λob hob=>?_⟩
     ·unfold St.addF
      split<;>exact QB _ _ _
     unfold St.addF
     rw[hob];exact QB _ _ _
    have hql':D[q]? = some true:=((setL q).1 hql).resolve_left e
    obtain⟨h1,h2⟩:=(hadd q y fl' nf' hq).1 hql'
    have hne:y.d≠x.d:=λh=>e (QeH hnd hq hit h)
    exact⟨λhal=>frK _ _ hne (h1 hal),λhal ob hob=>by rw[hpK _ (.inl hne)];exact h2 hal ob hob⟩
   ·have e:q≠i:=λe=>hql ((setL q).2 (.inl e))
    have hql':D[q]? ≠ some true:=λh=>hql ((setL q).2 (.inr h))
    have hne:y.d≠x.d:=λh=>e (QeH hnd hq hit h)
    rw[hpK _ (.inl hne)];exact(hadd q y fl' nf' hq).2.1 hql' hob
   by_cases e:q=i
   ·subst e
    rw[hit]at hq;cases hq
    refine⟨?_,λob hob=>?_⟩
    ·unfold St.addF
     split<;>exact QB _ _ _
    unfold St.addF
    rw[hob];exact QB _ _ _
   have hql':D[q]? = some true:=((setL q).1 hql).resolve_left e
   obtain⟨h1,h2⟩:=(hadd q y fl' nf' hq).2.2 hfl hql' hz
   have hne:y.d≠x.d:=λh=>e (QeH hnd hq hit h)
   exact⟨frK _ _ hne h1,λob hob=>by rw[hpK _ (.inl hne)];exact h2 ob hob⟩
 ·refine⟨0,Nat.zero_le _,λp M _=>by simp[Array.getElem?_replicate],⟨λ_ _ h=>h,λ_ _ h=>h⟩,λi x fl nf hi=>⟨λh=>by simp[Array.getElem?_replicate]at h,λ_ hob=>?_,λ_ h=>by simp[Array.getElem?_replicate]at h⟩⟩
  have h1:=hd2 _ ((Qa6 hi).2 hob)
  cases h:look base.hp x.d with
  | none=>rfl
  | some ob=>rw[SR h]at h1;cases h1
 intro D σ hs hall ⟨j,hj,hmu,hsub,hadd⟩
 have hjt:j=(Xq its).length:=by
  rcases Df j (Xq its).length with h | h
  ·obtain⟨p,M,hp,hpj⟩:=Qdy (its:=its) h
   have:=(hmu p M hp).1 (hall p (by have:=(Xa.1 hp).1;omega))
   omega
  omega
 subst hjt
 rw[Hc]at hsub
 refine k σ hsub λi x fl nf hi=>?_
 have:=(hadd i x fl nf hi).1 (hall i (by have:=(Xa.1 hi).1;omega))
 rwa[Hc]at this
end
inductive MD where
 | s
 | st (r:List V) (rs:List (List V))
 | app (rs:List (List V)) (m:Nat)
 | any (M:Yd)
 | cm (en:Ent) (M N:List (Nat×Nat)) (dead:List Nat) (ms:List Mode) (outs:List (Nat×Ob)) (r:V) (same:List Nat)
inductive Dw where
 | a (h:Wh) (sv:Option (List (Option Nat)×V)) (fl:Bool) (nf:Bool:=false)
 | m (md:MD)
def Qm0 (P:Program)(T:GX)(f:Operand->O_ V)(hp:Nat->O_ Ob)(c:Call):Ent->O_ (Nat×L_ V×Prop)
 | .fn=>match c.callee with
  | .value (.func g)=>bif XD T.en g then match VC f c.args.toList with
   | some vs=>some (g,vs,True)
   | none=>none
   else none
  | _=>none
 | .clo=>match c.callee with
  | .value x=>match f x with
   | some (.clo (.func g) fs h)=>bif XD T.en g then match VC f c.args.toList with
    | some vs=>some (g,fs++(vs++h),True)
    | none=>none
    else none
   | _=>none
  | _=>none
 | .me g=>match c.callee with
  | .invoke x name=>match f x with
   | some (.ifc t u)=>bif XD T.en g then match VC f c.args.toList with
    | some vs=>some (g,u::vs,(UC P t name=some (g,true)/\QeF P t=true)\/(UC P t name=some (g,false)/\ST P t=true))
    | none=>none
    else none
   | _=>none
  | _=>none
 | .mv g e=>match c.callee with
  | .invoke x name=>match f x with
   | some (.ifc t (.loc b 0 off))=>match hp b with
    | some (.var h)=>match h[off]? with
     | some r=>bif XD T.en g then match VC f c.args.toList with
      | some vs=>some (g,r::vs,UC P t name=some (g,false)/\VB P t e=true/\EA P e=some false)
      | none=>none
      else none
     | none=>none
    | _=>none
   | _=>none
  | _=>none
def QkD {P:Program}{C:Xx}{T:GX}{f:Operand->O_ V}{hp:Nat->O_ Ob}{o:Oper}{c:Call}{en:Ent}{g:Nat}{vs:L_ V}{ψ:Prop}{σ:St}(ok:Dg P T)(ho:o.op=.call c)(e:Qm0 P T f hp c en=some (g,vs,ψ))(hφ:ψ)
  (h1:∀x u,f x=some u->σ.opd x=some u) (h2:∀b u,hp b=some u->look σ.hp b=some u):Je P C o σ g vs:=by
 obtain⟨ce,ags,ts⟩:=c
 unfold Qm0 at e
 split at e
 ·split at e
  ·rename_i f' h
   dsimp only at h;subst h
   replace e:=XL e;obtain⟨D,e⟩:=e
   split at e
   ·rename_i vs' hv;cases e;exact Je.fn ho (ok.en D) (Ug h1 hv)
   cases e
  cases e
 ·split at e
  ·rename_i x h
   dsimp only at h;subst h
   split at e
   ·rename_i f' fs cs hx
    replace e:=XL e;obtain⟨D,e⟩:=e
    split at e
    ·rename_i vs' hv;cases e;exact Je.clo ho (h1 _ _ hx) (ok.en D) (Ug h1 hv)
    cases e
   cases e
  cases e
 ·split at e
  ·rename_i x name h
   dsimp only at h;subst h
   split at e
   ·rename_i t u hx
    replace e:=XL e;obtain⟨D,e⟩:=e
    split at e
    ·rename_i vs' hv;cases e;exact Je.meth (r:=u) ho (h1 _ _ hx) hφ (ok.en D) (Ug h1 hv)
    cases e
   cases e
  cases e
 split at e
 ·rename_i x name h
  dsimp only at h;subst h
  split at e
  ·rename_i t b off hx
   split at e
   ·rename_i cs hb
    split at e
    ·rename_i r hr0
     replace e:=XL e;obtain⟨D,e⟩:=e
     split at e
     ·rename_i vs' hv;cases e;exact Je.methV ho (h1 _ _ hx) hφ.1 hφ.2.1 hφ.2.2 (h2 _ _ hb) hr0 (ok.en D) (Ug h1 hv)
     cases e
    cases e
   cases e
  cases e
 cases e
def QlG {bk:Nat->O_ Nat}{hp hp':Nat->O_ Ob}(h:∀b u,hp b=some u->hp' b=some u):∀{M:L_ (Nat×Nat)} {l:H_},FL bk hp M=some l->FL bk hp' M=some l:=by
 intro M
 induction M with
 | nil=>intro l e;exact e
 | cons p M ih=>
  obtain⟨d,s⟩:=p
  intro l e
  rw[FL]at e ⊢
  split at e
  ·rename_i ob hob
   split at e
   ·rename_i ob' D
    split at e
    ·rename_i l' hl
     simp only[h _ _ hob,D,ih hl];exact e
    cases e
   cases e
  cases e
def QkE {σ:St}{M N:L_ (Nat×Nat)}{dead:L_ Nat}{outs:H_}(h:DY ⟨[],N.map λp=>(p.1,Ob.itr0)⟩ M N dead outs=true):DY σ M N dead outs=true:=by
 simp only[DY,QJ,XF]at h ⊢
 obtain⟨⟨h1,h2⟩,D⟩:=h
 refine⟨⟨h1,h2⟩,λp hp=>⟨⟨?_,(D p hp).1.2⟩,(D p hp).2⟩⟩
 have hn:∀{l:L_ (Nat×Nat)},p∈l->(look (l.map λp=>(p.1,Ob.itr0)) p.1).isNone=false:=by
  intro l hp
  induction l with
  | nil=>cases hp
  | cons q l ih=>
   show(look ((q.1,Ob.itr0)::l.map λp=>(p.1,Ob.itr0)) p.1).isNone=false
   by_cases e:q.1=p.1
   ·rw[e,QB];rfl
   rw[Qy _ _ e]
   refine ih ?_
   rcases Yl.1 hp with h | h
   ·exact absurd (congrArg Prod.fst h).symm e
   exact h
 have h4:=(D p hp).1.1
 rw[hn hp,Bool.or_false]at h4
 rw[h4];rfl
def Qa7 {σ:St}(dead:L_ Nat):∀(l:H_),(σ.killL dead).sets l=σ.after dead l:=by
 intro l
 induction l with
 | nil=>rfl
 | cons p l h=>rw[St.sets,h];rfl
def QkF (hp:Nat->O_ Ob)(h:H_):L_ Nat->Prop
 | []=>True
 | b::r=>hp b=look h b/\QkF hp h r
def QlH {hp:Nat->O_ Ob}{D:H_}:∀{l:L_ Nat},QkF hp D l->∀b,XD l b=true->hp b=look D b:=by
 intro l
 induction l with
 | nil=>intro _ b h;cases h
 | cons a l ih=>
  intro h b hb
  rw[XD]at hb
  cases e:Nat.beq a b with
  | true=>rw[<-YE e];exact h.1
  | false=>rw[e]at hb;exact ih h.2 b (by simpa using hb)
def QjN {D:L_ Nat}:∀{l:H_} {b:Nat},look (l.filter λp=>!(XD D p.1)) b=if XD D b=true then none else look l b:=by
 intro l
 induction l with
 | nil=>intro b;simp[look]
 | cons p l ih=>
  intro b
  rw[Am]
  by_cases e:p.1=b
  ·subst e
   cases h:XD D p.1 with
   | true=>
    simp only[GV,Bool.false_eq_true,if_false]
    rw[ih,h];simp
   | false=>
    simp only[Si,if_true,Bool.false_eq_true,if_false]
    obtain⟨k,v⟩:=p
    rw[QB,QB]
  cases h:XD D p.1 with
  | true=>
   simp only[GV,Bool.false_eq_true,if_false]
   rw[ih,Qy (k:=p.1) p.2 l e]
  | false=>
   simp only[Si,if_true]
   rw[Qy (k:=p.1) p.2 _ e,ih,Qy (k:=p.1) p.2 l e]
def R.congrHp {C:Xx}{σ σ':St}(hf:σ'.fr=σ.fr)(D:∀o,look σ'.hp o=look σ.hp o){a:Act}{w:World}(hR:R C σ a w):R C σ' a w:=by
 obtain⟨φ,h⟩:=hR
 exact⟨φ,h.os,h.tape,h.output,h.size,h.kept,h.inj,λo B hB=>by rw[D];exact h.dom o B hB,h.lt,h.new,⟨h.stay.1,λo ob B h1 h2 h3=>h.stay.2 o ob B h1 (by rw[<-D];exact h2) h3⟩,h.tmps,h.defers,λt v hv=>h.frame t v (by rw[<-hf];exact hv),λo ob hob=>h.heap o ob (by rw[<-D];exact hob)⟩
def mu1 (P:Program)(C:Xx)(T:GX)(n:Nat)(md:MD)(o:Oper)(f:Operand->O_ V)(hp:Nat->O_ Ob):O_ (Yd×O_ Prop):=match md with
 | .cm en M N dead ms outs r D=>match o.dst with
  | some d=>match o.op with
   | .call c=>bif DY ⟨[],N.map λp=>(p.1,Ob.itr0)⟩ M N dead outs&&BD (M.map Prod.fst)&&BD (N.map Prod.fst)&&Nat.ble (d+1) n then match Qm0 P T f hp c en with
    | some (g,vs,ψ)=>match NO (Gr M) ms vs with
     | some us=>match FL (Gr M) hp M with
      | some hsC=>match FL (Gr N) (look outs) N with
       | some hsN=>match trV (Gr N) r with
        | some r'=>match D with
         | []=>some (⟨dead,hsN,some (d,r')⟩,some (ψ/\QX P g us hsC (Gives r outs)))
         | _=>match dead with
          | []=>some (⟨[],hsN.filter (λp=>!(XD D p.1)),some (d,r')⟩,some ((ψ/\QX P g us hsC (Gives r outs))/\QkF hp hsN D))
          | _=>none
        | none=>none
       | none=>none
      | none=>none
     | none=>none
    | none=>none
    else none
   | _=>none
  | none=>none
 | .any M=>some (M,some (∀σ:St,(∀x u,f x=some u->σ.opd x=some u)->(∀b u,hp b=some u->look σ.hp b=some u)->Stp P C o σ (M.run σ)))
 | .s=>match o.dst with
  | some d=>match o.op with
   | .assign x=>match f x with
    | some v=>bif Nat.ble (d+1) n then some (⟨[],[],some (d,v)⟩,none)else none
    | none=>none
   | .move x=>match f x with
    | some v=>bif Nat.ble (d+1) n then some (⟨[],[],some (d,v)⟩,none)else none
    | none=>none
   | _=>none
  | none=>match o.op with
   | .store Tx x y=>match f x with
    | some (.loc b i off)=>match f y with
     | some v=>match hp b with
      | some (.var cs)=>match i with
       | 0=>match look T.sz Tx with
        | some k=>bif v.isV&&Nat.beq v.cells.length k&&v.cells.all V.one&&Nat.ble (off+k) cs.length then some (⟨[],[(b,.var (Kz cs off v.cells))],none⟩,none)else none
        | none=>none
       | _=>none
      | _=>none
     | none=>none
    | _=>none
   | _=>none
 | .st r h=>match o.dst with
  | some _=>none
  | none=>match o.op with
   | .store Tx x y=>match f x with
    | some (.loc b i off)=>match f y with
     | some v=>match hp b with
      | some (.arr z rs)=>match look T.sz Tx with
       | some k=>bif v.isV&&Nat.beq v.cells.length k&&v.cells.all V.one&&v.cells.all V.dat&&Nat.ble (off+k) z then some (⟨[],[(b,.arr z h)],none⟩,some (rs[i]? = some r/\rs.set i (Kz r off v.cells)=h))else none
       | none=>none
      | _=>none
     | none=>none
    | _=>none
   | _=>none
 | .app h m=>match o.dst with
  | some d=>match o.op with
   | .call c=>match c.callee with
    | .builtin .append=>match c.args.toList with
     | [x,y]=>match c.argTypes.toList with
      | [Tx,Ty]=>match f x with
       | some (.own b k)=>match f y with
        | some v=>match hp b with
         | some (.arr z rs)=>match look T.es Tx with
          | some (e,z',by_)=>match look T.zv e with
           | some zs=>bif (look T.es Ty).isSome&&Nat.ble (d+1) n&&!(Nat.ble 618 b)&&Nat.beq z z'&&Nat.beq zs.length z&&!(Nat.beq z 0)&&Nat.ble by_ 32768 then match v with
            | .sl z'' us=>bif Nat.beq z z'' then some (⟨[b],[(b,.arr z h)],some (d,.own b m)⟩,some (rs.length=k/\decide (k+us.length<=4294967296)=true/\rs++us=h/\k+us.length=m))else none
            | _=>none
            else none
           | none=>none
          | none=>none
         | _=>none
        | none=>none
       | _=>none
      | _=>none
     | _=>none
    | _=>none
   | _=>none
  | none=>none
def PM (obj:Bool)(o:Oper)(t:Nat)(fo:Bool)(ms:L_ Yd):L_ (It×Nat)->Nat->O_ DF
 | (.add x h _,j)::r,i+1=>bif Nat.beq x.d t&&Lp o i&&(bif fo then h else bif obj then Zu x h (ms.drop j)else alv x h (ms.drop j))then some x else PM obj o t fo ms r i
 | (.tn _,_)::r,i+1=>PM obj o t fo ms r i
 | _,_=>none
def SZ (B:St)(fo:Bool)(ms:L_ Yd)(h:L_ (It×Nat))(i:Nat)(o:Oper):Operand->O_ V
 | .tmp t=>match look B.fr t with
  | some v=>some v
  | none=>match PM false o t fo ms h i with
   | some x=>some x.v
   | none=>none
 | x=>B.opd x
def Qa8 (B:St)(fo:Bool)(ms:L_ Yd)(h:L_ (It×Nat))(i:Nat)(o:Oper)(b:Nat):O_ Ob:=match look B.hp b with
 | some ob=>some ob
 | none=>match PM true o b fo ms h i with
  | some x=>x.ob
  | none=>none
structure Dr where
 ri:List (It×Nat)
 ms:List Yd
 B:St
 φ:Prop
def Uh (P:Program)(C:Xx)(T:GX)(n:Nat)(ops:Array Oper)(S:St):L_ Dw->L_ Oper->Nat->L_ (It×Nat)->L_ Yd->St->Prop->O_ Dr
 | [],_,_,D,ms,B,φ=>some ⟨D,ms,B,φ⟩
 | .a h sv fl nf::ds,o::l,i,D,ms,B,φ=>match EE ops o (λt=>SZ (bif fl&&!nf then S else B) (fl&&!nf) ms D i o (.tmp t))with
  | some true=>match o.dst with
   | some d=>bif Nat.ble (d+1) n then match ev1 P C T h o d (SZ (bif fl&&!nf then S else B) (fl&&!nf) ms D i o) (Qa8 (bif fl&&!nf then S else B) (fl&&!nf) ms D i o)with
    | some ⟨v,ob,q⟩=>match sv with
     | none=>Uh P C T n ops S ds l (i+1) ((.add ⟨d,v,ob⟩ fl nf,ms.length)::D) ms B (SV φ q)
     | some (mm,u)=>Uh P C T n ops S ds l (i+1) ((.add ⟨d,u,ob⟩ fl nf,ms.length)::D) ms B (SV φ q/\v.denil mm=u)
    | none=>none
    else none
   | none=>none
  | some false=>match o.dst with
   | some d=>bif Nat.ble (d+1) n then Uh P C T n ops S ds l (i+1) ((.add ⟨d,.lit undef,none⟩ fl nf,ms.length)::D) ms B φ else none
   | none=>none
  | none=>none
 | .m md::ds,o::l,i,D,ms,B,φ=>match EE ops o (λt=>SZ B false ms D i o (.tmp t))with
  | some true=>match mu1 P C T n md o (SZ B false ms D i o) (Qa8 B false ms D i o)with
   | some (M,q)=>Uh P C T n ops S ds l (i+1) ((.tn M,ms.length)::D) (ms++[M]) (M.run B) (SV φ q)
   | none=>none
  | _=>none
 | _::_,[],_,_,_,_,_=>none
def Yz (h:L_ (It×Nat)):L_ It:=(h.map Prod.fst).reverse
section
variable {P:Program}{C:Xx}{T:GX}{Q:Exit->St->Prop}{n:Nat}{ops:Array Oper}{base S:St}{ks:L_ Fr}
def QhS {md:MD}{o:Oper}{f:Operand->O_ V}{hp:Nat->O_ Ob}{M:Yd}{q:O_ Prop}{σ:St}(ok:Dg P T)(hN:Jq P C n)(e:mu1 P C T n md o f hp=some (M,q))(hq:match q with | none=>True | some p=>p)
  (h1:∀x u,f x=some u->σ.opd x=some u) (h2:∀b u,hp b=some u->look σ.hp b=some u):Stp P C o σ (M.run σ):=by
 have hn:=hN.n
 have hpg:=hN.g
 unfold mu1 at e
 cases md with
 | any M0=>cases e;exact hq σ h1 h2
 | cm en M0 N dead ms outs r same=>
  dsimp only at e
  split at e
  ·rename_i d hd
   split at e
   ·rename_i c ho
    replace e:=XL e;obtain⟨D,e⟩:=e
    simp only[QJ]at D
    obtain⟨⟨⟨g1,g2⟩,g3⟩,g4⟩:=D
    rw[<-hn]at g4
    have g1:=QkE (σ:=σ) g1
    have g2:=Du.1 g2
    have g3:=Du.1 g3
    have inj:HN M0=true/\HN N=true:=by
     simp only[DY,QJ]at g1
     exact⟨g1.1.1.1,g1.1.1.2⟩
    have mM:∀a b,Gr M0 a=some b->look M0 b=some a:=λa b h=>KL inj.1 (FG h) g2
    have mN:∀a b,Gr N a=some b->look N b=some a:=λa b h=>KL inj.2 (FG h) g3
    split at e
    ·rename_i g vs ψ hent
     split at e
     ·rename_i us hus
      split at e
      ·rename_i hsC hC
       split at e
       ·rename_i hsN hN
        split at e
        ·rename_i r' hr
         have call:ψ/\QX P g us hsC (Gives r outs)->Stp P C o σ ((σ.after dead hsN).put d r'):=λhq=>
          Stp.callM (g:=false) (QkD (C:=C) ok ho hent hq.1 h1 h2) hd g4 hpg g1 g2 (LR mM hus) (Gw mM (QlG h2 hC)) hq.2 (Gw mN hN) (Nt mN hr)
         split at e
         ·cases e
          unfold Yd.run
          dsimp only
          rw[Qa7];exact call hq
         split at e
         ·cases e
          obtain⟨hq1,hq2⟩:=hq
          intro a w hR K Q hK
          refine call hq1 a w hR K Q λa' w' hR'=>hK a' w' (R.congrHp ?_ (λo=>?_) hR')
          ·unfold Yd.run;dsimp only;rw[Qa7];rfl
          unfold Yd.run;dsimp only;rw[Qa7]
          show look (_++σ.hp) o=look (_++σ.hp) o
          rw[EW,EW,QjN]
          by_cases hm:XD same o=true
          ·rw[if_pos hm]
           have:=QlH hq2 o hm
           cases hl:look hsN o with
           | none=>rfl
           | some ob=>rw[hl]at this;exact h2 o ob this
          rw[if_neg hm]
         cases e
        cases e
       cases e
      cases e
     cases e
    cases e
   cases e
  cases e
 | s=>
  dsimp only at e
  split at e
  ·rename_i d hd
   split at e
   ·rename_i x ho
    split at e
    ·rename_i v hv
     replace e:=XL e;obtain⟨D,e⟩:=e
     rw[<-hn]at D
     cases e;exact Stp.assign ho hd D (h1 _ _ hv)
    cases e
   ·rename_i x ho
    split at e
    ·rename_i v hv
     replace e:=XL e;obtain⟨D,e⟩:=e
     rw[<-hn]at D
     cases e;exact Stp.move ho hd D (h1 _ _ hv)
    cases e
   cases e
  rename_i hd
  split at e
  ·rename_i Tx x y ho
   split at e
   ·rename_i b i off hx
    split at e
    ·rename_i v hv
     split at e
     ·rename_i cs hb
      split at e
      ·split at e
       ·rename_i k hk
        replace e:=XL e;obtain⟨e2,e⟩:=e
        cases e
        simp only[QJ]at e2
        obtain⟨⟨⟨a1,a2⟩,a3⟩,a4⟩:=e2
        exact Stp.storeL ho hd (h1 _ _ hx) (h2 _ _ hb) (h1 _ _ hv) (V.isV_or a1) (ok.sz hk) (YE a2) a3 a4 rfl
       cases e
      cases e
     cases e
    cases e
   cases e
  cases e
 | st r rs'=>
  dsimp only at e
  split at e
  ·cases e
  rename_i hd
  split at e
  ·rename_i Tx x y ho
   split at e
   ·rename_i b i off hx
    split at e
    ·rename_i v hv
     split at e
     ·rename_i z rs hb
      split at e
      ·rename_i k hk
       replace e:=XL e;obtain⟨e2,e⟩:=e
       cases e
       simp only[QJ]at e2
       obtain⟨⟨⟨⟨a1,a2⟩,a3⟩,a4⟩,a5⟩:=e2
       exact Stp.storeA ho hd (h1 _ _ hx) (h2 _ _ hb) hq.1 (h1 _ _ hv) (V.isV_or a1) (ok.sz hk) (YE a2) a3 a4 a5 hq.2
      cases e
     cases e
    cases e
   cases e
  cases e
 | app rs' m=>
  dsimp only at e
  split at e
  ·rename_i d hd
   split at e
   ·rename_i c ho
    obtain⟨ce,ags,ts⟩:=c
    split at e
    ·rename_i hce
     dsimp only at hce e;subst hce
     split at e
     ·rename_i x y hxy
      split at e
      ·rename_i Tx Ty hT
       split at e
       ·rename_i b k hx
        split at e
        ·rename_i v hv
         split at e
         ·rename_i z rs hb
          split at e
          ·rename_i et z' by_ hes
           split at e
           ·rename_i zs hz
            replace e:=XL e;obtain⟨D,e⟩:=e
            simp only[QJ,UA]at D
            obtain⟨⟨⟨⟨⟨⟨a1,a2⟩,a3⟩,a4⟩,a5⟩,a6⟩,a7⟩:=D
            have a4:=YE a4;subst a4
            have a5:=YE a5
            have a6:z≠0:=λh0=>by rw[h0]at a6;cases a6
            rw[<-hn]at a2
            obtain⟨⟨e2,z2,by2⟩,hU⟩:∃q,Yi P Ty=some q:=by
             cases hl:look T.es Ty with
             | none=>rw[hl]at a1;cases a1
             | some q=>exact⟨q,ok.es hl⟩
            have ea:ags=#[x,y]:=by rw[<-Qch (xs:=ags),hxy]
            have et:ts=#[Tx,Ty]:=by rw[<-Qch (xs:=ts),hT]
            subst ea;subst et
            split at e
            ·rename_i z'' us
             replace e:=XL e;obtain⟨e3,e⟩:=e
             have:=YE e3;subst this
             cases e
             obtain⟨h4,h5,h6,h7⟩:=hq
             exact Stp.appS ho hd a2 (h1 _ _ hx) (h2 _ _ hb) a3 h4 (ok.es hes) hU (ok.zv hz) a5 a6 a7 h5 (h1 _ _ hv) h6 h7
            cases e
           cases e
          cases e
         cases e
        cases e
       cases e
      cases e
     cases e
    cases e
   cases e
  cases e
def Qcw {obj:Bool}{o:Oper}{t:Nat}{fo:Bool}{ms:L_ Yd}:∀{ri:L_ (It×Nat)} {i:Nat} {x:DF},i=ri.length->PM obj o t fo ms ri i=some x->
  ∃k D nf j,ri.reverse[k]? = some (.add x D nf,j)/\Lp o k=true/\x.d=t/\(bif fo then D else bif obj then Zu x D (ms.drop j)else alv x D (ms.drop j))=true:=by
 intro ri
 induction ri with
 | nil=>intro i x hi h;subst hi;cases h
 | cons y ri ih=>
  intro i x hi h
  subst hi
  have up:∀{x:DF},(∃k D nf j,ri.reverse[k]? = some (.add x D nf,j)/\Lp o k=true/\x.d=t/\(bif fo then D else bif obj then Zu x D (ms.drop j)else alv x D (ms.drop j))=true)->∃k D nf j,(y::ri).reverse[k]? = some (.add x D nf,j)/\Lp o k=true/\x.d=t/\(bif fo then D else bif obj then Zu x D (ms.drop j)else alv x D (ms.drop j))=true:=by
   rintro x ⟨k,D,nf,j,h1,h2⟩
   refine⟨k,D,nf,j,?_,h2⟩
   rw[List.reverse_cons,Jx (Xa.1 h1).1];exact h1
  obtain⟨it,j⟩:=y
  cases it with
  | tn M=>rw[DU,PM]at h;exact up (ih rfl h)
  | add z D nf=>
   rw[DU,PM]at h
   cases hb:(Nat.beq z.d t&&Lp o ri.length&&(bif fo then D else bif obj then Zu z D (ms.drop j)else alv z D (ms.drop j)))with
   | true=>
    rw[hb]at h;cases h
    simp only[QJ]at hb
    exact⟨ri.length,D,nf,j,by simp,hb.1.2,YE hb.1.1,hb.2⟩
   | false=>rw[hb]at h;exact up (ih rfl h)
def Qa9 {o:Oper}{f:Nat->O_ V}{σ:St}{b:Bool}(h:EE ops o f=some b)(hx:∀t u,f t=some u->look σ.fr t=some u):EE ops o (look σ.fr)=some b:=by
 unfold EE at h ⊢
 cases hg:o.guard with
 | none=>simp only[hg]at h ⊢;exact h
 | some p=>
  obtain⟨j,t⟩:=p
  simp only[hg]at h ⊢
  cases hj:ops[j]? with
  | none=>simp only[hj]at h;cases h
  | some oj=>
   simp only[hj]at h ⊢
   cases hd:oj.dst with
   | none=>simp only[hd]at h;cases h
   | some d=>
    simp only[hd]at h ⊢
    cases D:f d with
    | none=>simp only[D]at h;cases h
    | some v=>
     have:=hx d v D
     simp only[D]at h
     simp only[this]
     exact h
def Jy.want {o:Oper}{σ σ':St}(h:EE ops o (look σ.fr)=some true)(hs:Stp P C o σ σ'):Jy P C ops o σ σ':=by
 rcases Rb h with⟨hg,_⟩|⟨j,t,d',hg,hj,⟨u,hu,D⟩|⟨_,D⟩⟩
 ·exact Jy.run hg hs
 ·exact Jy.runG hg hj hu (by simpa using D.symm) hs
 cases D
def Jy.unwant {o:Oper}{σ:St}{d:Nat}(h:EE ops o (look σ.fr)=some false)(hd:o.dst=some d)(hn:B_ d C):Jy P C ops o σ (σ.put d (.lit undef)):=by
 rcases Rb h with⟨_,D⟩|⟨j,t,d',hg,hj,⟨u,hu,D⟩|⟨hu,_⟩⟩
 ·cases D
 ·have:u=!t:=by cases u<;>cases t<;>first | rfl | cases D
  exact Jy.pass hg hj hu this hd hn
 exact Jy.passU hg hj hu hd hn
def Qg7 (ok:Dg P T)(hN:Jq P C n){D:Dr}:∀(ds:L_ Dw) {l:L_ Oper} {i:Nat} {ri:L_ (It×Nat)} {ms:L_ Yd} {B:St} {φ:Prop},Uh P C T n ops S ds l i ri ms B φ=some D->i=ri.length->l=ops.toList.drop i->ms=Xq (Yz ri)->B=NP base ms->
  (∀k it j,ri.reverse[k]? = some (it,j)->j=j0 (Yz ri) k)->D.φ->
  φ/\D.ri.length=i+ds.length/\(∃r,Yz D.ri=Yz ri++r)/\D.ms=Xq (Yz D.ri)/\D.B=NP base D.ms/\(∀k it j,D.ri.reverse[k]? = some (it,j)->j=j0 (Yz D.ri) k)/\
   ∀k o it,i<=k->ops[k]? = some o->(Yz D.ri)[k]? = some it->ZW P C ops base S (Yz D.ri) k o it:=by
 have hn:=hN.n
 intro ds
 induction ds with
 | nil=>
  intro l i ri ms B φ h hi hl hms hB hj hφ
  cases h
  refine⟨hφ,by simp[hi],⟨[],by simp⟩,hms,hB,hj,λk o it hk ho hit=>?_⟩
  have:=(Xa.1 hit).1
  simp[Yz]at this;omega
 | cons d ds ih=>
  intro l i ri ms B φ h hi hl hms hB hj hφ
  cases l with
  | nil=>cases d<;>cases h
  | cons o l=>
   have ho:ops[i]? = some o:=by
    have:=congrArg (λx=>x[0]?) hl
    simpa using this.symm
   have hl':l=ops.toList.drop (i+1):=by
    have:=congrArg List.tail hl
    simpa using this
   have hlen:(Yz ri).length=i:=by simp[Yz,hi]
   have grow:∀(it:It) (φ0:Prop) (ms':L_ Yd) (B':St),ms'=Xq (Yz ri++[it])->B'=NP base ms'->Uh P C T n ops S ds l (i+1) ((it,ms.length)::ri) ms' B' φ0=some D->
     (φ0->φ/\∀its:L_ It,(∃r,its=Yz ri++(it::r))->ZW P C ops base S its i o it)->
     φ/\D.ri.length=i+(ds.length+1)/\(∃r,Yz D.ri=Yz ri++r)/\D.ms=Xq (Yz D.ri)/\D.B=NP base D.ms/\(∀k it j,D.ri.reverse[k]? = some (it,j)->j=j0 (Yz D.ri) k)/\
      ∀k o it,i<=k->ops[k]? = some o->(Yz D.ri)[k]? = some it->ZW P C ops base S (Yz D.ri) k o it:=by
    intro it φ0 ms' B' hms' hB' h hstep
    have hio:Yz ((it,ms.length)::ri)=Yz ri++[it]:=by simp[Yz]
    obtain⟨h1,h2,⟨r,h3⟩,h4,h5,h6,h7⟩:=ih h (by simp[hi]) hl' (by rw[hio];exact hms') hB' (λk it' j hk=>by
     rw[hio]
     rw[List.reverse_cons]at hk
     by_cases hlt:k<ri.length
     ·rw[Jx (by simpa using hlt)]at hk
      rw[hj k it' j hk];unfold j0
      rw[Qds (by omega)]
     rw[Wg (by simp;omega)]at hk
     have:k-ri.reverse.length=0:=by
      have:=(Xa.1 hk).1;simpa using this
     rw[this]at hk;simp at hk
     obtain⟨rfl,rfl⟩:=hk
     have hk2:k=ri.length:=by simp at this;omega
     unfold j0
     rw[Qds (by omega),hms,Kl (by omega)]) hφ
    obtain⟨h8,h9⟩:=hstep h1
    rw[hio,WI]at h3
    refine⟨h8,by omega,⟨_,h3⟩,h4,h5,h6,λk o' it' hk ho' hit=>?_⟩
    rcases Df i k with hlt | hge
    ·exact h7 k o' it' hlt ho' hit
    have:k=i:=by omega
    subst this
    rw[ho]at ho';cases ho'
    have:(Yz D.ri)[k]? = some it:=by rw[h3,Wg (by omega),hlen];simp
    rw[this]at hit;cases hit
    exact h9 _ ⟨r,h3⟩
   have place:∀{its:L_ It} {it:It} {r:L_ It},its=Yz ri++(it::r)->(Xq its).take (j0 its i)=ms/\∀k it' j,ri.reverse[k]? = some (it',j)->its[k]? = some it'/\j=j0 its k:=by
    intro its it r hits
    have h1:its.take i=Yz ri:=by rw[hits,Qds (by omega),Kl (by omega)]
    refine⟨?_,λk it' j hk=>⟨?_,?_⟩⟩
    ·unfold j0;rw[h1,hits,Aa,<-hms];simp
    ·have hk2:(Yz ri)[k]? = some it':=by simp only[Yz,<-List.map_reverse,XY,hk,JD]
     rw[hits,Jx (Xa.1 hk2).1];exact hk2
    have hkl:=(Xa.1 hk).1
    rw[hj k it' j hk];unfold j0
    rw[hits,Qds (by simp at hkl;omega)]
   have envB:∀{its:L_ It} {it:It} {r:L_ It} {σ:St},its=Yz ri++(it::r)->GL σ B->(∀k y fl nf,its[k]? = some (.add y fl nf)->Lp o k=true->NQ σ y fl (ms.drop (j0 its k)))->
     (∀x u,SZ B false ms ri i o x=some u->σ.opd x=some u)/\∀b u,Qa8 B false ms ri i o b=some u->look σ.hp b=some u:=by
    intro its it r σ hits hsub hdep
    have dep:∀{t:Nat} {x:DF},PM false o t false ms ri i=some x->look σ.fr x.d=some x.v/\x.d=t:=λhf=>by
     obtain⟨k,fl,nf,j,g1,g2,g3,g4⟩:=Qcw hi hf
     obtain⟨g5,g6⟩:=(place hits).2 k _ j g1
     exact⟨(hdep k _ fl nf g5 g2).1 (by rw[<-g6];exact g4),g3⟩
    have depO:∀{t:Nat} {x:DF},PM true o t false ms ri i=some x->(∀ob,x.ob=some ob->look σ.hp x.d=some ob)/\x.d=t:=λhf=>by
     obtain⟨k,fl,nf,j,g1,g2,g3,g4⟩:=Qcw hi hf
     obtain⟨g5,g6⟩:=(place hits).2 k _ j g1
     exact⟨(hdep k _ fl nf g5 g2).2 (by rw[<-g6];exact g4),g3⟩
    refine⟨λx u hx=>?_,λb u hx=>?_⟩
    ·cases x with
     | tmp t=>
      simp only[SZ]at hx
      split at hx
      ·rename_i v hv;cases hx;exact hsub.1 _ _ hv
      split at hx
      ·rename_i y hy;cases hx;obtain⟨g1,g2⟩:=dep hy;subst g2;exact g1
      cases hx
     | const v=>exact hx
     | global g=>exact hx
     | func f=>exact hx
    simp only[Qa8]at hx
    split at hx
    ·rename_i v hv;cases hx;exact hsub.2 _ _ hv
    split at hx
    ·rename_i y hy;obtain⟨g1,g2⟩:=depO hy;subst g2;exact g1 _ hx
    cases hx
   have envS:∀{its:L_ It} {it:It} {r:L_ It} {σ:St},its=Yz ri++(it::r)->GL σ S->(∀k y nf,its[k]? = some (.add y true nf)->Lp o k=true->QaS σ y)->
     (∀x u,SZ S true ms ri i o x=some u->σ.opd x=some u)/\∀b u,Qa8 S true ms ri i o b=some u->look σ.hp b=some u:=by
    intro its it r σ hits hsub hdep
    have dep:∀{b:Bool} {t:Nat} {x:DF},PM b o t true ms ri i=some x->QaS σ x/\x.d=t:=λhf=>by
     obtain⟨k,fl,nf,j,g1,g2,g3,g4⟩:=Qcw hi hf
     obtain⟨g5,g6⟩:=(place hits).2 k _ j g1
     have:fl=true:=g4
     subst this
     exact⟨hdep k _ nf g5 g2,g3⟩
    refine⟨λx u hx=>?_,λb u hx=>?_⟩
    ·cases x with
     | tmp t=>
      simp only[SZ]at hx
      split at hx
      ·rename_i v hv;cases hx;exact hsub.1 _ _ hv
      split at hx
      ·rename_i y hy;cases hx;obtain⟨g1,g2⟩:=dep hy;subst g2;exact g1.1
      cases hx
     | const v=>exact hx
     | global g=>exact hx
     | func f=>exact hx
    simp only[Qa8]at hx
    split at hx
    ·rename_i v hv;cases hx;exact hsub.2 _ _ hv
    split at hx
    ·rename_i y hy;obtain⟨g1,g2⟩:=dep hy;subst g2;exact g1.2 _ hx
    cases hx
   have addOK:∀{x:DF} {fl nf:Bool} {φ0:Prop},Uh P C T n ops S ds l (i+1) ((.add x fl nf,ms.length)::ri) ms B φ0=some D->
     (φ0->φ/\∀σ,(∀y u,SZ (bif fl&&!nf then S else B) (fl&&!nf) ms ri i o y=some u->σ.opd y=some u)->(∀b u,Qa8 (bif fl&&!nf then S else B) (fl&&!nf) ms ri i o b=some u->look σ.hp b=some u)->(x.ob.isSome=true->look σ.hp x.d=none)->Jy P C ops o σ (σ.addF x))->
     φ/\D.ri.length=i+(ds.length+1)/\(∃r,Yz D.ri=Yz ri++r)/\D.ms=Xq (Yz D.ri)/\D.B=NP base D.ms/\(∀k it j,D.ri.reverse[k]? = some (it,j)->j=j0 (Yz D.ri) k)/\
      ∀k o it,i<=k->ops[k]? = some o->(Yz D.ri)[k]? = some it->ZW P C ops base S (Yz D.ri) k o it:=by
    intro x fl nf φ0 h hs
    refine grow (.add x fl nf) φ0 ms B (by rw[Aa];simp[Xq,hms]) hB h λh0=>?_
    obtain⟨g1,g2⟩:=hs h0
    refine⟨g1,λits ⟨r,hits⟩=>?_⟩
    dsimp only[ZW]
    generalize (fl&&!nf)=ff at g2 ⊢
    cases ff with
    | true=>exact λσ hsub hdep hf=>let ⟨a,b⟩:=envS hits hsub hdep;g2 σ a b hf
    | false=>
     intro σ hsub hdep hf
     rw[(place hits).1,<-hB]at hsub
     rw[(place hits).1]at hdep
     obtain⟨a,b⟩:=envB hits hsub hdep
     exact g2 σ a b hf
   cases d with
   | a h0 sv fl nf=>
    rw[Uh]at h
    split at h
    ·rename_i hw
     split at h
     ·rename_i dd hd
      replace h:=XL h;obtain⟨e1,h⟩:=h
      rw[<-hn]at e1
      have stp:∀{v:V} {ob:O_ Ob} {q:O_ Prop} {σ:St},ev1 P C T h0 o dd (SZ (bif fl&&!nf then S else B) (fl&&!nf) ms ri i o) (Qa8 (bif fl&&!nf then S else B) (fl&&!nf) ms ri i o)=some ⟨v,ob,q⟩->Rs.holds ⟨v,ob,q⟩->
        (∀x u,SZ (bif fl&&!nf then S else B) (fl&&!nf) ms ri i o x=some u->σ.opd x=some u)->(∀b u,Qa8 (bif fl&&!nf then S else B) (fl&&!nf) ms ri i o b=some u->look σ.hp b=some u)->(ob.isSome=true->look σ.hp dd=none)->Jy P C ops o σ (σ.addF ⟨dd,v,ob⟩):=
       λhe hq hx hh hf=>Jy.want (Qa9 hw λt u ht=>hx (.tmp t) u ht) (Qcp ok hd e1 hN.g hx hh he hq hf)
      split at h
      ·rename_i v ob q he
       split at h
       ·exact addOK h λh1=>let ⟨a,b⟩:=SW h1;⟨a,λσ hx hh hf=>stp he b hx hh hf⟩
       refine addOK h λh1=>?_
       obtain⟨h1,h2⟩:=h1
       subst h2
       obtain⟨a,b⟩:=SW h1
       exact⟨a,λσ hx hh hf=>(stp he b hx hh hf).denil⟩
      cases h
     cases h
    ·rename_i hw
     split at h
     ·rename_i dd hd
      replace h:=XL h;obtain⟨e1,h⟩:=h
      rw[<-hn]at e1
      exact addOK h λh1=>⟨h1,λσ hx hh hf=>Jy.unwant (Qa9 hw λt u ht=>hx (.tmp t) u ht) hd e1⟩
     cases h
    cases h
   | m md=>
    rw[Uh]at h
    split at h
    ·rename_i hw
     split at h
     ·rename_i M q he
      refine grow (.tn M) (SV φ q) (ms++[M]) (M.run B) (by rw[Aa];simp[Xq,hms]) (by rw[QfQ,<-hB];rfl) h λh1=>?_
      obtain⟨a,b⟩:=SW (v:=.J) (ob:=none) h1
      refine⟨a,λits ⟨r,hits⟩ σ hsub hdep=>?_⟩
      rw[(place hits).1,<-hB]at hsub
      rw[(place hits).1]at hdep
      obtain⟨hx,hh⟩:=envB hits hsub hdep
      refine Jy.want (Qa9 hw λt u ht=>hx (.tmp t) u ht) (QhS ok hN he ?_ hx hh)
      cases q with
      | none=>trivial
      | some p=>exact b
     cases h
    cases h
def LS (ms:L_ Yd):L_ (It×Nat)->S_
 | []=>[]
 | (.add x h _,j)::r=>bif alv x h (ms.drop j)then(x.d,x.v)::LS ms r else LS ms r
 | (.tn _,_)::r=>LS ms r
def HR (ms:L_ Yd):L_ (It×Nat)->H_
 | []=>[]
 | (.add x h _,j)::r=>bif Zu x h (ms.drop j)then(match x.ob with | some ob=>(x.d,ob)::HR ms r | none=>HR ms r)else HR ms r
 | (.tn _,_)::r=>HR ms r
def okV (ops:Array Oper)(base S:St)(D:Dr):Bool:=QgZ ops&&QmW ops (Yz D.ri)&&Qi8 base (Yz D.ri)&&Qg5 ops D.ms (Yz D.ri)&&Qg6 ops (Yz D.ri) D.ms S&&Qkz ops (Yz D.ri)
def Pa {α:Type}{l:L_ (Nat×α)}:∀{D:L_ Nat} {r:L_ (Nat×α)},Gv l D=some r->∀p∈r,look l p.1=some p.2:=by
 intro D
 induction D with
 | nil=>intro r h p hp;cases h;cases hp
 | cons t D ih=>
  intro r h p hp
  rw[Gv]at h
  split at h
  ·rename_i v hv
   split at h
   ·rename_i r' hr
    cases h
    rcases Yl.1 hp with rfl | hp
    ·exact hv
    exact ih hr p hp
   cases h
  cases h
def Qja {fr:S_}:∀{l:S_},(∀p∈l,look fr p.1=some p.2)->IB fr l:=by
 intro l
 induction l with
 | nil=>intro _;trivial
 | cons p l ih=>intro h;exact⟨h p XR,ih λq D=>h q (XZ _ D)⟩
def Qjb {fr:H_}:∀{l:H_},(∀p∈l,look fr p.1=some p.2)->UB fr l:=by
 intro l
 induction l with
 | nil=>intro _;trivial
 | cons p l ih=>intro h;exact⟨h p XR,ih λq D=>h q (XZ _ D)⟩
def AK.draw2 {id:Nat}(ok:Dg P T)(hN:Jq P C n)(hmix:P.follows .mixedOrders=true)(ds:L_ Dw)(sts sos ts os:L_ Nat){sf:S_}{sh:H_}{fr:S_}{hp:H_}{ri:L_ (It×Nat)}{ms:L_ Yd}{B:St}{φ:Prop}
  (hS1:Gv base.fr sts=some sf) (hS2:Gv base.hp sos=some sh)
  (e:Uh P C T n ops ⟨sf,sh⟩ ds ops.toList 0 [] [] base True=some ⟨ri,ms,B,φ⟩) (hφ:φ) (hl:ds.length=ops.size) (hk:okV ops base ⟨sf,sh⟩ ⟨ri,ms,B,φ⟩=true)
  (hf1:Gv (LS ms ri++B.fr) ts=some fr) (hf2:Gv (HR ms ri++B.hp) os=some hp) (hc:St.closed ⟨fr,hp⟩=true) (k:AK P C Q (.x .normal) ks ⟨fr,hp⟩):AK P C Q (.c (.region id ops true)) ks base:=by
 have hn:=hN.n
 obtain⟨D,hD⟩:∃D:Dr,D=⟨ri,ms,B,φ⟩:=⟨_,rfl⟩
 rw[<-hD]at e hk
 have hφ:D.φ:=by rw[hD];exact hφ
 have hf1:Gv (LS D.ms D.ri++D.B.fr) ts=some fr:=by rw[hD];exact hf1
 have hf2:Gv (HR D.ms D.ri++D.B.hp) os=some hp:=by rw[hD];exact hf2
 clear hD
 simp only[okV,QJ]at hk
 obtain⟨⟨⟨⟨⟨k1,k2⟩,k3⟩,k4⟩,k5⟩,k6⟩:=hk
 obtain⟨_,h2,_,h4,h5,h6,h7⟩:=Qg7 (base:=base) ok hN ds e rfl rfl rfl rfl (λk it j h=>by simp at h) hφ
 have hlen:(Yz D.ri).length=ops.size:=by simp[Yz];omega
 rw[h4]at k4 k5
 have hS:GL base ⟨sf,sh⟩:=⟨λt v h=>by
  have:=Pa hS1 (t,v) (YY h);exact this,λp ob h=>by have:=Pa hS2 (p,ob) (YY h);exact this⟩
 refine AK.drawV hmix hlen k1 k2 k3 k6 k4 k5 hS (λi o it ho hit=>h7 i o it (Nat.zero_le _) ho hit) λσ hsub hadd=>?_
 rw[<-h4,<-h5]at hsub
 have hadd':∀x fl nf j,(It.add x fl nf,j)∈D.ri->NQ σ x fl (D.ms.drop j):=by
  intro x fl nf j hm
  obtain⟨i,hi⟩:=List.getElem?_of_mem (List.mem_reverse.2 hm)
  have hj:=h6 i _ j hi
  rw[hj,h4]
  refine hadd i x fl nf ?_
  simp only[Yz,<-List.map_reverse,XY,hi,JD]
 have frOK:∀{ri:L_ (It×Nat)},(∀q∈ri,q∈D.ri)->∀{t:Nat} {v:V},look (LS D.ms ri) t=some v->look σ.fr t=some v:=by
  intro ri
  induction ri with
  | nil=>intro _ t v h;cases h
  | cons y ri ih=>
   intro hm t v h
   have hm':=λq hq=>hm q (XZ _ hq)
   obtain⟨it,j⟩:=y
   cases it with
   | tn M=>exact ih hm' h
   | add x fl nf=>
    rw[LS]at h
    cases hal:alv x fl (D.ms.drop j)with
    | false=>rw[hal]at h;exact ih hm' h
    | true=>
     rw[hal]at h
     have h:look ((x.d,x.v)::LS D.ms ri) t=some v:=h
     by_cases e:x.d=t
     ·subst e;rw[QB]at h;cases h;exact(hadd' x fl nf j (hm _ XR)).1 hal
     rw[Qy _ _ e]at h;exact ih hm' h
 have hpOK:∀{ri:L_ (It×Nat)},(∀q∈ri,q∈D.ri)->∀{t:Nat} {v:Ob},look (HR D.ms ri) t=some v->look σ.hp t=some v:=by
  intro ri
  induction ri with
  | nil=>intro _ t v h;cases h
  | cons y ri ih=>
   intro hm t v h
   have hm':=λq hq=>hm q (XZ _ hq)
   obtain⟨it,j⟩:=y
   cases it with
   | tn M=>exact ih hm' h
   | add x fl nf=>
    rw[HR]at h
    cases hal:Zu x fl (D.ms.drop j)with
    | false=>rw[hal]at h;exact ih hm' h
    | true=>
     rw[hal]at h
     cases hob:x.ob with
     | none=>rw[hob]at h;exact ih hm' h
     | some ob=>
      rw[hob]at h
      have h:look ((x.d,ob)::HR D.ms ri) t=some v:=h
      by_cases e:x.d=t
      ·subst e;rw[QB]at h;cases h;exact(hadd' x fl nf j (hm _ XR)).2 hal _ hob
      rw[Qy _ _ e]at h;exact ih hm' h
 refine AK.weaken (λa w hR=>hR.to (Qja λp hp'=>?_) (Qjb λp hp'=>?_) hc) k
 ·have:=Pa hf1 p hp'
  rw[EW]at this
  cases hl:look (LS D.ms D.ri) p.1 with
  | some v=>rw[hl]at this;cases this;exact frOK (λ_ h=>h) hl
  | none=>rw[hl]at this;exact hsub.1 _ _ this
 have:=Pa hf2 p hp'
 rw[EW]at this
 cases hl:look (HR D.ms D.ri) p.1 with
 | some v=>rw[hl]at this;cases this;exact hpOK (λ_ h=>h) hl
 | none=>rw[hl]at this;exact hsub.2 _ _ this
end
def Stp.callSame {P:Program}{C:Xx}{T:GX}{n:Nat}{o:Oper}{md:MD}{f:Operand->O_ V}{hp:Nat->O_ Ob}{σ:St}{d:Nat}{v:V}{q:Prop}(ok:Dg P T)(hN:Jq P C n)(h:∀x u,f x=some u->σ.opd x=some u)(D:∀b u,hp b=some u->look σ.hp b=some u)
  (e:mu1 P C T n md o f hp=some (⟨[],[],some (d,v)⟩,some q)) (hq:q):Stp P C o σ (σ.addF ⟨d,v,none⟩):=QhS (q:=some q) ok hN e hq h D
def Qps {α:Type}{f:α->L_ V}{l:L_ α}{k:Nat}:((l.map f).drop k).take (l.length-k)=(l.drop k).map f:=by
 rw[<-List.map_drop];exact Kl (by simp)
def QfS {α:Type}{f:α->L_ V}{l:L_ α}{k h:Nat}:((l.map f).drop k).take (h-k)=((l.drop k).take (h-k)).map f:=by simp
def Qpt {α:Type}{l:L_ α}{k:Nat}:l.length-k=(l.drop k).length:=Mt.symm
def QlI {a b:Nat}(h:decide (a<=b)=true):a<=b:=Xw h
section
variable {P:Program}{C:Xx}{σ:St}{o:Oper}
def Qcx (P:Program)(T:TypeId)(k:IntKind):Bool:=match P.underlying T with
 | some (.int q)=>ikB q k
 | _=>false
def Qba {T:TypeId}{k:IntKind}(h:Qcx P T k=true):P.underlying T=some (.int k):=by
 unfold Qcx at h
 split at h
 ·rename_i q D;rw[D,QiU h]
 cases h
def Stp.convI {S T d:Nat}{x:Operand}{k h:IntKind}{n:Int}(ho:o.op=.convert S T x)(hd:o.dst=some d)(hn:B_ d C)(hx:σ.opd x=some (.i h n))(hs:Qcx P S h=true)(D:Qcx P T k=true):Stp P C o σ (σ.put d (.i k (k.wrap n))):=by
 refine Stp.same hd hn λφ a w hr=>⟨.int k (k.wrap n),?_,.dat (.i _ _)⟩
 simp[execOp,ho,(hr.opd hx).i_inv,convert,run_underlying (Qba hs),run_underlying (Qba D),Conv.intToInt]
def QkG (k:IntKind)(m n:Int):Int:=k.wrap (m*2 ^ (min n.toNat k.bits))
def Jm (k:IntKind)(m n:Int):Int:=m.fdiv (2 ^ (min n.toNat k.bits))
def Stp.shl {x y:Operand}{T U d:Nat}{k k':IntKind}{m n:Int}(ho:o.op=.binOp .shl T x y U)(D:o.dst=some d)(hn:B_ d C)(hx:σ.opd x=some (.i k m))(hy:σ.opd y=some (.i k' n))(h0:0<=n):Stp P C o σ (σ.put d (.i k (QkG k m n))):=by
 refine Stp.same D hn λφ a w h=>⟨.int k _,?_,.dat (.i _ _)⟩
 have:¬n<0:=by omega
 simp[execOp,ho,(h.opd hx).i_inv,(h.opd hy).i_inv,eqGuard,binOp,Op.shift,this,QkG]
def Stp.shr {x y:Operand}{T U d:Nat}{k k':IntKind}{m n:Int}(ho:o.op=.binOp .shr T x y U)(D:o.dst=some d)(hn:B_ d C)(hx:σ.opd x=some (.i k m))(hy:σ.opd y=some (.i k' n))(h0:0<=n):Stp P C o σ (σ.put d (.i k (Jm k m n))):=by
 refine Stp.same D hn λφ a w h=>⟨.int k _,?_,.dat (.i _ _)⟩
 have:¬n<0:=by omega
 simp[execOp,ho,(h.opd hx).i_inv,(h.opd hy).i_inv,eqGuard,binOp,Op.shift,this,Jm]
def Wi (k:IntKind)(m n:Int):Int:=k.wrap ((BitVec.ofInt k.bits m &&& BitVec.ofInt k.bits n).toNat:Int)
def Stp.andB {x y:Operand}{T U d:Nat}{k:IntKind}{m n:Int}(ho:o.op=.binOp .and T x y U)(D:o.dst=some d)(hn:B_ d C)(hx:σ.opd x=some (.i k m))(hy:σ.opd y=some (.i k n)):Stp P C o σ (σ.put d (.i k (Wi k m n))):=
 Stp.same D hn λφ a w h=>⟨.int k _,by simp[execOp,ho,(h.opd hx).i_inv,(h.opd hy).i_inv,eqGuard,binOp,Op.intBits,Wi],.dat (.i _ _)⟩
def BG : L_ V->O_ (L_ Value)
 | []=>some []
 | .i k n::r=>(BG r).map (.int k n::·)
 | .b x::r=>(BG r).map (.bool x::·)
 | .s x::r=>(BG r).map (.string x::·)
 | _=>none
def QlJ {φ:Nat->O_ QS}{I:Nat->Prop}{w:World}:∀{D:L_ V} {vs xs:L_ Value},BG D=some vs->xs.length=D.length->(∀(j:Nat) x v,xs[j]? = some x->D[j]? = some v->QO φ I w x v)->xs=vs:=by
 intro D
 induction D with
 | nil=>intro vs xs h hl _;cases h;exact QiC hl
 | cons c D ih=>
  intro vs xs h hl hr
  cases xs with
  | nil=>cases hl
  | cons x xs=>
   have h0:=hr 0 x c rfl rfl
   have hi:∀{us:L_ Value},BG D=some us->xs=us:=λe=>ih e (by simpa using hl) λj x v a b=>hr (j+1) x v a b
   cases c with
   | i k n=>simp only[BG,XX]at h;obtain⟨us,e,rfl⟩:=h;rw[h0.i_inv,hi e]
   | b k=>simp only[BG,XX]at h;obtain⟨us,e,rfl⟩:=h;rw[h0.b_inv,hi e]
   | s k=>simp only[BG,XX]at h;obtain⟨us,e,rfl⟩:=h;rw[h0.s_inv,hi e]
   | _=>cases h
def QO.aggVals {φ:Nat->O_ QS}{I:Nat->Prop}{w:World}{x:Value}{D:L_ V}{vs:L_ Value}(h:QO φ I w x (.agg D))(hv:BG D=some vs):x=.agg vs.toArray:=by
 obtain⟨xs,rfl,hs,hr⟩:=h.agg_inv
 have:=QlJ (xs:=xs.toList) hv (by simpa using hs) λj x v a b=>hr j x v (by simpa using a) b
 rw[<-this]
def EqT (P:Program)(T:TypeId)(vs us:L_ Value)(r:Bool):Prop:=P.eqGuardType P.depth T=false/\∀w,(Op.equalIn 10000 T (.agg vs.toArray) (.agg us.toArray)).run P w=.ok r w
def Stp.eqAgg {x y:Operand}{T U d:Nat}{D ds:L_ V}{vs us:L_ Value}{r:Bool}(ho:o.op=.binOp .eql T x y U)(hd:o.dst=some d)(hn:B_ d C)(hx:σ.opd x=some (.agg D))(hy:σ.opd y=some (.agg ds))(hv:BG D=some vs)(hu:BG ds=some us)(h:EqT P T vs us r):
  Stp P C o σ (σ.put d (.b r)):=by
 refine Stp.same hd hn λφ a w hr=>⟨.bool r,?_,.dat (.b _)⟩
 have h1:=(hr.opd hx).aggVals hv
 have h2:=(hr.opd hy).aggVals hu
 have h3:=h.2 w
 simp only[execOp,ho,h1,h2,eqGuard,Xk,run_program,Xv,h.1]
 simp[binOp,Op.equal,Op.maxDepth,h3,h.1]
def Stp.neAgg {x y:Operand}{T U d:Nat}{D ds:L_ V}{vs us:L_ Value}{r:Bool}(ho:o.op=.binOp .neq T x y U)(hd:o.dst=some d)(hn:B_ d C)(hx:σ.opd x=some (.agg D))(hy:σ.opd y=some (.agg ds))(hv:BG D=some vs)(hu:BG ds=some us)(h:EqT P T vs us r):
  Stp P C o σ (σ.put d (.b (!r))):=by
 refine Stp.same hd hn λφ a w hr=>⟨.bool (!r),?_,.dat (.b _)⟩
 have h1:=(hr.opd hx).aggVals hv
 have h2:=(hr.opd hy).aggVals hu
 have h3:=h.2 w
 simp only[execOp,ho,h1,h2,eqGuard,Xk,run_program,Xv,h.1]
 simp[binOp,Op.equal,Op.maxDepth,h3,h.1]
end
section
variable {P:Program}{C:Xx}{σ:St}{Q:Exit->St->Prop}{ks:L_ Fr}{ops:Array Oper}{rest:L_ Oper}{o:Oper}
def AK.eqNil {x y:Operand}{T U d e z:Nat}{rows:L_ (L_ V)}(hg:o.guard=none)(ho:o.op=.binOp .eql T x y U)(hd:o.dst=some d)(hn:B_ d C)(hx:σ.opd x=some (.sl z rows))(hy:σ.opd y=some (.lit (.slice none 0 0)))(hT:P.underlying T=some (.slice e))
  (h1:rows=[]->AK P C Q (.o ops rest) ks (σ.put d (.b true))) (h2:AK P C Q (.o ops rest) ks (σ.put d (.b false))):AK P C Q (.o ops (o::rest)) ks σ:=by
 intro a w hR
 obtain⟨φ,hr⟩:=hR
 have hyv:a.eval y=.slice none 0 0:=(hr.opd hy).lit_inv
 have h:∀p l c,a.eval x=.slice p l c->(execOp a.eval o).run P w=.ok (.value (.bool p.isNone)) w:=λp l c e=>by
  simp[execOp,ho,e,hyv,eqGuard,binOp,run_equal_slice_nil w T _ p l c hT]
 have go:∀{v:Bool} {σ':St},(execOp a.eval o).run P w=.ok (.value (.bool v)) w->σ'=σ.put d (.b v)->AK P C Q (.o ops rest) ks σ'->wpListIn C.F 0 P ops (up C (unw P C Q ks)) (o::rest) a w:=λ{v σ'} e e2 k=>by
  have:Stp P C { o with op:=.move (.const (.bool v)) } σ (σ.put d (.b v)):=Stp.move rfl hd hn rfl
  simp only[wpListIn,Region.wanted,hg,if_true]
  refine⟨λ_ _=>trivial,?_⟩
  rw[QfF e,Oper.uponIn_value]
  subst e2
  refine k _ _ ⟨φ,?_⟩
  rw[hd]
  exact hr.put (XB hn) (.dat (.b _))
 rcases(hr.opd hx).sl_inv with⟨p,c,D,h0⟩|⟨b,off,cap,D,_⟩
 ·cases p with
  | none=>exact go (h none 0 c D) rfl (h1 h0)
  | some p=>exact go (h (some p) 0 c D) rfl h2
 exact go (h _ _ _ D) rfl h2
end
section
variable {P:Program}{C:Xx}{σ:St}{o:Oper}
def Stp.buildAny {T d e z by_ n:Nat}{D:Array (Nat×Operand)}{zs vs:L_ V}{qs:S_}(ho:o.op=.buildSlice T n D)(hd:o.dst=some d)(hn:B_ d C)
  (hT:Yi P T=some (e,z,by_)) (hz:XJ P e=some zs) (hzl:zs.length=z) (hz0:z≠0) (hbig:n*z<=16777216) (hq:σ.opds D.toList=some qs) (hv:qs.all (λq=>q.2.isV)=true)
  (hf:EB (λi=>some (i*z,z)) ((List.range (n*z)).map λk=>zs.getD (k % z) .J) qs=some vs)
  (hfr:look σ.hp d=none):Stp P C o σ ((σ.set d (.var vs)).put d (.own d n)):=by
 refine Stp.val λφ a w hr=>?_
 obtain⟨hu,i,hi,hi1,_⟩:=Kn hT
 obtain⟨i',zv,hi',hz',rfl⟩:=Ct hz
 rw[hi]at hi';cases hi'
 have hzs:zv.cells.size=i.size:=by rw[hi1];simpa using hzl
 have hf0:=hf
 rw[<-hi1]at hf
 rw[<-QaQ zv.cells n i.size hzs (by omega)]at hf
 obtain⟨xs',h1,h2,h3⟩:=hr.fill hq hv hf
 refine⟨.slice (some ⟨w.heap.size,0,none⟩) n n,w.alloc (.cells xs' e),ext φ d ⟨w.heap.size,n,1,[],0⟩,?_,?_⟩
 ·have e2:(D.map λp=>(p.1,a.eval p.2)).toList=D.toList.map λp=>(p.1,a.eval p.2):=by simp
  have hb:¬(n*i.size > 2 ^ 24):=by rw[hi1];omega
  by_cases hn0:n*i.size=0
  ·have hn1:n=0:=by
    rw[hi1]at hn0
    rcases Nat.mul_eq_zero.1 hn0 with h | h
    ·exact h
    exact absurd h hz0
   subst hn1
   simp only[Fg]at h1
   rw[QgW,Array.map_empty]at h1
   simp only[execOp,ho,Instr.buildSlice,Xk,run_underlying hu,Xv,sizeOf,typeInfo,run_program,hi,Xy,Fg,if_true,e2,QgW,Array.map_empty]
   simp[h1,newRow]
  simp only[execOp,ho,Instr.buildSlice,Xk,run_underlying hu,Xv,sizeOf,typeInfo,run_program,hi,Xy,if_neg hb,if_neg hn0,zeroValue,hz',e2,h1,newRow,run_newObj]
  simp
 have hN:=hr.none_of_look hfr
 have hnew:=hr.alloc (cap:=n) (z:=1) hfr (C.slot hn) (ob:=.var vs) (obj:=.cells xs' e)
  ⟨xs',e,heap_alloc_new w _,h2,rfl,λj x v hx hv'=>(h3 j x v hx hv').mono (hr.mono_ext _ hN) (hr.imm_alloc d n 1 _ hN)⟩
 rw[hd]
 refine hnew.put (XB hn) ?_
 exact .own d n ⟨w.heap.size,n,1,[],0⟩ (Xb _ _ _) (Jp _)
def Stp.idxV {T d e z by_ b n m:Nat}{x y:Operand}{cs:L_ V}{k:IntKind}{j:Int}(ho:o.op=.indexAddr T x y)(hd:o.dst=some d)(hn:B_ d C)
  (hx:σ.opd x=some (.own b n)) (hy:σ.opd y=some (.i k j)) (hT:Yi P T=some (e,z,by_)) (hb:look σ.hp b=some (.var cs)) (h:(0<=j/\j<n)/\j.toNat*z=m):
  Stp P C o σ (σ.put d (.loc b 0 m)):=by
 refine Stp.same hd hn λφ a w hr=>?_
 obtain⟨⟨h,h1⟩,rfl⟩:=h
 rcases(hr.opd hx).own_inv with⟨_,rfl⟩|⟨B,hB,D,he⟩
 ·omega
 refine⟨.pointer (some ⟨B.b,B.off+(0*B.z+j.toNat*z),none⟩),?_,.loc b 0 (j.toNat*z) B hB⟩
 simp only[execOp,ho,he,(hr.opd hy).i_inv,Xk,SO hT h h1,Xv,Xy,Addr.add_lit,Fg,Ff]
end
section
variable {P:Program}{C:Xx}{Q:Exit->St->Prop}
def Rnd (P:Program)(C:Xx)(Q:Exit->St->Prop)(ks:L_ Fr)(c:Code):Nat->St->Prop
 | 0,_=>False
 | n+1,σ=>AK P C Q (.c c) (.cut (Rnd P C Q ks c n)::ks) σ
def AK.rnd {ks:L_ Fr}{c:Code}{n:Nat}{σ:St}(h:AK P C Q (.c c) (.cut (Rnd P C Q ks c n)::ks) σ):Rnd P C Q ks c (n+1) σ:=h
def AK.loopN {ks:L_ Fr}{c:Code}(n:Nat){σ:St}(h:Rnd P C Q ks c n σ):AK P C Q (.c (.loop c)) ks σ:=by
 have key:∀(n:Nat) (σ:St) (a:Act) (w:World),Rnd P C Q ks c n σ->R C σ a w->Code.roundsIn C.F 0 P c (up C (unw P C Q ks)) n a w:=by
  intro n
  induction n with
  | zero=>intro σ a w h;exact h.elim
  | succ n ih=>
   intro σ a w h D
   rw[roundsIn_succ]
   refine wpIn_mono (h a w D) ?_
   rintro e a' w' ⟨σ',h1,h2⟩
   cases e with
   | normal=>exact ih σ' a' w' h1 h2
   | _=>exact⟨σ',h1,h2⟩
 exact λa w D=>wpIn_loop_rounds n (key n σ a w h D)
end
def QfT (h:L_ V):L_ Tmp->L_ V->L_ V
 | p::D,v::vs=>QfT (h.set p v) D vs
 | _,_=>h
def QlK {φ:Nat->O_ QS}{I:Nat->Prop}{w:World}:∀(ps:L_ Tmp) (h:L_ Value) (vs:L_ V) (D:Array Value) (cs:L_ V),h.length=vs.length->D.size=cs.length->
  (∀(j:Nat) x v,D[j]? = some x->cs[j]? = some v->QO φ I w x v)->(∀(j:Nat) x v,h[j]? = some x->vs[j]? = some v->QO φ I w x v)->
  ((ps.zip h).foldl (λD p=>D.setIfInBounds p.1 p.2) D).size=(QfT cs ps vs).length/\∀(j:Nat) x v,((ps.zip h).foldl (λD p=>D.setIfInBounds p.1 p.2) D)[j]? = some x->(QfT cs ps vs)[j]? = some v->QO φ I w x v:=by
 intro ps
 induction ps with
 | nil=>intro h vs D cs _ h2 h3 _;cases vs<;>exact⟨h2,h3⟩
 | cons p ps ih=>
  intro h vs D cs h1 h2 h3 h4
  cases h with
  | nil=>cases vs with
   | nil=>exact⟨h2,h3⟩
   | cons=>cases h1
  | cons y h=>cases vs with
   | nil=>cases h1
   | cons v vs=>
    refine ih h vs (D.setIfInBounds p y) (cs.set p v) (by simpa using h1) (by simpa using h2) (λj x u hx hu=>?_) λj x u hx hu=>h4 (j+1) x u hx hu
    by_cases e:p=j
    ·subst e
     rw[Array.getElem?_setIfInBounds_self]at hx
     rw[List.getElem?_set_self']at hu
     split at hx
     ·rename_i hlt
      cases hx
      rw[Qx (by omega)]at hu
      cases hu
      exact h4 0 _ _ rfl rfl
     cases hx
    rw[QiK e]at hx
    rw[Ix e]at hu
    exact h3 j x u hx hu
def Re (P:Program)(l:Nat)(K:Bl)(us:L_ V)(hs:H_)(post:V->H_->Prop):Prop:=
 ∀(S:Nat->Prop) (φ:Nat->O_ QS) (w:World) (h:Array Value),Ins S φ w h us hs->RA P S w->
  RoundIn Fence.wide 0 P l K.fn h K.assign K.body w λe w'=>∃x v D φ',e=.returned x/\post v D/\Outs S φ w φ' w' x v D
def QoI {C:Xx}{n:Nat}{P:Program}{l:Nat}{f:FuncId}{tmps:Array Value}{assign body:Code}{w:World}{R:Ending->World->Prop}(h:RoundIn Fence.wide 0 P l f tmps assign body w R):RoundIn C.F n P l f tmps assign body w R:=
 ⟨trivial,λc D _=>h.2 c D (room_wide _)⟩
section
variable {P:Program}{C:Xx}{φ:Nat->O_ QS}{σ:St}{a:Act}{w:World}{o:Oper}
def RR.lp (h:RR C φ σ a w){b l:Nat}{K:Bl}{D:L_ V}{q:Nat}(hb:look σ.hp b=some (.lp l K D q)):∃B,φ b=some B/\QnT φ (QZ C φ w) w B l K D q:=by
 rcases h.heap b _ hb with h | ⟨_,h⟩
 ·exact h
 exact h.elim
def RR.lpSet (h:RR C φ σ a w){b l:Nat}{K:Bl}{cs:L_ V}{q q':Nat}(hb:look σ.hp b=some (.lp l K cs q)):
  ∃r:Loop,w.heap[l]? = some (.loop r)/\r.state=lst q/\r.pending=ZT q/\RR C φ (σ.set b (.lp l K cs q')) a (w.putObj l (.loop { r with state:=lst q',pending:=ZT q' })):=by
 obtain⟨B,hB,tmps,D,rfl,h1,h2,h3,h4⟩:=h.lp hb
 refine⟨_,h2,rfl,rfl,?_⟩
 have hlt:=(h.lt b B B.b hB B.self).1
 have hk:∀k,k≠B.b->(w.putObj B.b (.loop { state:=lst q',pending:=ZT q',fn:=K.fn,tmps,params:=K.ps,assign:=K.assign,body:=K.body,defers:=D })).heap[k]? = w.heap[k]? := λk hk=>World.putObj_heap_other hk
 refine h.write hB rfl rfl rfl World.putObj_size hk ⟨tmps,D,rfl,h1,World.putObj_heap_same hlt,h3,λj x v hx hv=>?_⟩
 refine(h4 j x v hx hv).mono (λ_ _ h=>h) λk hk'=>⟨⟨by rw[World.putObj_size];exact hk'.1,hk'.2⟩,hk k λe=>hk'.2.2 b B hB (.inl e)⟩
def Stp.yield {d b l:Nat}{K:Bl}{cs:L_ V}{q:Nat}{x:Operand}{ags:Array Operand}{ts:Array TypeId}{M N:L_ (Nat×Nat)}{dead:L_ Nat}{hsC outs hsN:H_}{vs us:L_ V}{r r':V}(ho:o.op=.call { callee:=.value x,args:=ags,argTypes:=ts })
  (hx:σ.opd x=some (.clo (.yield l) [] [])) (hlp:look σ.hp b=some (.lp l K cs q)) (hq:q=0) (ha:σ.opsV ags.toList=some vs) (hps:vs.length=K.ps.size) (hd:o.dst=some d) (hn:B_ d C) (hpg:C.pg P)
  (hnm:DY σ M N dead outs=true) (hnd:(M.map Prod.fst).Nodup)
  (hv:Vws σ.hp false false (EC M) (λa b=>look M b=some a) (QfT cs K.ps.toList vs) us) (hobs:Lq σ.hp false false (EC M) (λa b=>look M b=some a) σ.hp M hsC)
  (hc:Re P l K us hsC (Gives r outs)) (hback:Lq [] false false [] (λc b=>look N b=some c) outs N hsN) (hr':Vw [] false false [] (λc b=>look N b=some c) r r'):
  Stp P C o σ ((σ.after dead hsN).put d r'):=by
 intro a w ⟨φ,hr⟩ next Q hnext
 subst hq
 have hN:=Names.of hnm hnd
 refine⟨λ_ _=>trivial,?_⟩
 obtain⟨h1,h2⟩:=hr.opsV _ _ ha
 obtain⟨xs,ys,hev,e1,e2,_,_⟩:=(hr.opd hx).clo_inv
 have e1:xs=#[]:=Array.eq_empty_of_size_eq_zero e1
 have e2:ys=#[]:=Array.eq_empty_of_size_eq_zero e2
 subst e1;subst e2
 obtain⟨B,hB,tmps,D,e0,_,hh,hsz,hrep⟩:=hr.lp hlp
 have hl1:(ags.toList.map a.eval).length=vs.length:=by simpa using h1
 obtain⟨s1,s2⟩:=QlK (φ:=φ) (I:=QZ C φ w) (w:=w) K.ps.toList (ags.toList.map a.eval) vs tmps cs hl1 hsz hrep (λj x v hx hv=>by
  simp only[XY,XX]at hx
  obtain⟨y,hy,rfl⟩:=hx
  exact h2 j y v hy hv)
 have hsize:(ags.map a.eval).size=K.ps.size:=by rw[<-hps,<-hl1];simp
 have hfold:(K.ps.zip (ags.map a.eval)).foldl (λtmps (t,a)=>tmps.setIfInBounds t a) tmps=(K.ps.toList.zip (ags.toList.map a.eval)).foldl (λtm p=>tm.setIfInBounds p.1 p.2) tmps:=by
  rw[<-Array.foldl_toList];simp
 have hex:(execOp a.eval o).run P w=.ok (.round l K.fn ((K.ps.toList.zip (ags.toList.map a.eval)).foldl (λtm p=>tm.setIfInBounds p.1 p.2) tmps).toList.toArray K.assign K.body) w:=by
  simp only[execOp,ho,resolve,Xk,hev,Deferred.ofValue,Xy,Xv,invoke,Array.empty_append]
  rw[run_yield hh hsize,hfold]
 rw[Oper.semAt_eq _ _ _ (by rw[ho];intro c hc;cases hc),hex,Oper.uponIn_round]
 refine⟨(λh=>by cases h),QoI ((hc _ _ w _ (Ins.of_vals hr (by simpa using s1) (λj x v hx hv=>s2 j x v (by simpa using hx) hv) hN.injM hN.param hv hobs) ((hr.glob hpg).mono λ_ h=>.inl h)).mono ?_)⟩
 rintro e w' ⟨x,v,hs',φ',rfl,⟨rfl,hso⟩,hout⟩
 obtain⟨h3,h4⟩:=hr.after hN hout hso (λc s h=>by
  obtain⟨ob',e1⟩:=hobs.get.2 c s h
  obtain⟨s',ob,e2,e3,_⟩:=hobs.get.1 c ob' e1
  rw[h]at e2;cases e2;exact⟨ob,e3⟩) hback
 refine hnext _ _ ⟨Lr φ M N dead φ',?_⟩
 rw[hd]
 exact h3.put (XB hn) (h4 hr')
def QoJ (b l:Nat)(K:Bl)(h:V->H_->Prop):Exit->St->Prop
 | .normal,σ=>∃D,look σ.hp b=some (.lp l K D 1)/\h (.b true) ((b,.lp l K D 0)::σ.hp)
 | .ret,σ=>∃D,look σ.hp b=some (.lp l K D 1)/\h (.b false) ((b,.lp l K D 2)::σ.hp)
 | .exit k,σ=>∃D,look σ.hp b=some (.lp l K D 1)/\h (.b false) ((b,.lp l K D (k+3))::σ.hp)
 | _,_=>False
def Re.walk {b l:Nat}{K:Bl}{us:L_ V}{hs:H_}{post:V->H_->Prop}(n:Nat)(hn:us.length=n)(hle:Nat.ble n 618=true)
  (h:∀C:Xx,Jq P C n->AK P C (λe σ=>e=.normal/\∃cs,look σ.hp b=some (.lp l K cs 0)/\AK P C (QoJ b l K post) (.c K.body) [] (σ.set b (.lp l K cs 1))) (.c K.assign) [] ⟨MP 0 us,hs⟩):Re P l K us hs post:=by
 intro S φ w vals hi hG
 let C:Xx:=⟨w,S,λk=>∃o B,φ o=some B/\B.has k,n,φ,JN hle,some l⟩
 have hF:Fence.wide.inRound l=C.F:=rfl
 have hI:∀k,S k->QZ C φ w k/\w.heap[k]? = w.heap[k]? := λk hk=>⟨⟨hi.lt k hk,λ_=>hk,λo B hB e=>((hi.dom o B hB).2.1 k e).2 hk⟩,rfl⟩
 have hR:R C ⟨MP 0 us,hs⟩ { tmps:=vals,defers:=[] } w:=by
  refine⟨φ,rfl,rfl,rfl,Jp _,λ_ _ _=>rfl,hi.inj,λo B hB=>(hi.dom o B hB).2.2,λo B k hB hk=>⟨((hi.dom o B hB).2.1 k hk).1,λ_=>⟨o,B,hB,hk⟩⟩,λo B k hB hk hlt=>absurd (hi.dom o B hB).1 (by omega),⟨λ_ _ _ h=>h,λ_ _ _ _ _ h=>h⟩,
   by show vals.size=n;rw[hi.size,hn],⟨[],rfl,List.nodup_nil,λ_ h=>by cases h⟩,λt v hv=>?_,λo ob hob=>?_⟩
  ·obtain⟨_,h2⟩:=QhK us 0 t v hv
   rw[Nat.sub_zero]at h2
   have hlt:t<vals.size:=by rw[hi.size];exact(Xa.1 h2).1
   exact⟨vals[t],GG hlt,(hi.args t _ v (GG hlt) h2).mono (λ_ _ h=>h) hI⟩
  rcases hi.heap o ob hob with⟨B,hB,hr⟩|hn
  ·exact .inl ⟨B,hB,hr.mono (λ_ _ h=>h) hI λ_ _=>rfl⟩
  exact .inr hn
 refine roundIn_of_wpIn trivial ?_
 rw[hF]
 refine wpIn_mono (h C ⟨rfl,hG,λg hg ⟨o,B,hB,hb⟩=>((hi.dom o B hB).2.1 g hb).2 (hG g hg).1⟩ _ _ hR) ?_
 rintro e a1 w1 ⟨σ1,⟨rfl,cs,hlp,hbody⟩,φ1,hr1⟩
 obtain⟨r,g1,g2,g3,g4⟩:=hr1.lpSet (q':=1) hlp
 refine⟨_,run_beginRound g1 g2,?_⟩
 have hbusy:({ r with state:=LoopState.busy }:Loop)={ r with state:=lst 1,pending:=ZT 1 }:=by
  rw[show ZT 1=r.pending from g3.symm];rfl
 rw[hbusy]
 refine wpIn_mono (hbody _ _ ⟨φ1,g4⟩) ?_
 rintro e a2 w2 ⟨σ2,hq,φ2,hr2⟩
 have fin:∀(D:O_ Code) (q:Nat) (cs2:L_ V),look σ2.hp b=some (.lp l K cs2 1)->ZT q=D->(if D.isNone then LoopState.ready else LoopState.done)=lst q->post (.b D.isNone) ((b,.lp l K cs2 q)::σ2.hp)->
   ∃v w',(Instr.endRound l D).run P w2=.ok v w'/\∃x v' hs' φ',Ending.returned v=.returned x/\post v' hs'/\Outs S φ w φ' w' x v' hs':=λD q cs2 hl2 hj hst hp=>by
  obtain⟨r2,k1,_,_,k4⟩:=hr2.lpSet (q':=q) hl2
  refine⟨_,_,run_endRound D k1,.bool D.isNone,.b D.isNone,_,φ2,rfl,hp,?_⟩
  rw[hst,<-hj]
  exact⟨k4.os,k4.tape,k4.output,k4.size,λk hk hne=>k4.kept k hk (λ⟨o,B,hB,e⟩=>hne o B hB e),k4.inj,k4.dom,
   λo B k hB hk=>⟨(k4.lt o B k hB hk).1,λhlt=>(k4.lt o B k hB hk).2 hlt⟩,k4.new,k4.stay,.dat (.b _),k4.heap⟩
 cases e with
 | normal=>obtain⟨cs2,hl2,hp⟩:=hq;exact fin none 0 cs2 hl2 rfl rfl hp
 | ret=>obtain⟨cs2,hl2,hp⟩:=hq;exact fin (some .ret) 2 cs2 hl2 rfl rfl hp
 | exit k=>obtain⟨cs2,hl2,hp⟩:=hq;exact fin (some (.exit k)) (k+3) cs2 hl2 rfl rfl hp
 | _=>exact hq.elim
def RR.mark (h:RR C φ σ a w):RR C φ σ { a with defers:={ target:=.collected w.heap.size,args:=#[] }::a.defers } (w.alloc (.deferred (some []))):=by
 have hs:=h.step (w':=w.alloc (.deferred (some []))) rfl rfl rfl (by simp) (λk hk=>Below.heap_alloc w _ k hk)
 refine⟨hs.os,hs.tape,hs.output,hs.size,hs.kept,hs.inj,hs.dom,hs.lt,hs.new,hs.stay,hs.tmps,?_,hs.frame,hs.heap⟩
 obtain⟨Ds,h1,h2,h3⟩:=hs.defers
 obtain⟨Ds',h1',h2',h3'⟩:=h.defers
 refine⟨w.heap.size::Ds',by simp[h1'],Ez.2 ⟨λhm=>absurd (h3' _ hm).2.1.1 (by omega),h2'⟩,λD hD=>?_⟩
 rcases Yl.1 hD with rfl | hD
 ·refine⟨h.size,⟨by simp,λhlt=>absurd h.size (by omega),λo B hB hh=>absurd (h.lt o B _ hB hh).1 (by omega)⟩,World.alloc_heap_new w _⟩
 obtain⟨a1,a2,a3⟩:=h3' D hD
 exact⟨a1,⟨by have:=a2.1;simp;omega,a2.2⟩,(Below.heap_alloc w _ D a2.1).trans a3⟩
def RR.killTo (h:RR C φ σ a w){b:Nat}{B:QS}(D:φ b=some B){w':World}(ho:w'.os=w.os)(ht:w'.tape=w.tape)(hu:w'.output=w.output)(hs:w'.heap.size=w.heap.size)(hk:∀k,k≠B.b->w'.heap[k]? = w.heap[k]?):RR C (WW φ b) (σ.kill b) a w':=by
 have hI:∀k,QZ C φ w k->QZ C (WW φ b) w' k/\w'.heap[k]? = w.heap[k]? := λk hk'=>⟨⟨by rw[hs];exact hk'.1,hk'.2.1,λo B' hB'=>hk'.2.2 o B' (Jk hB').2⟩,hk k λe=>hk'.2.2 b B D (.inl e)⟩
 have hφ:∀o B,o≠b->φ o=some B->WW φ b o=some B:=λo B ho D=>by rw[KK ho];exact D
 refine⟨ho.trans h.os,ht.trans h.tape,hu.trans h.output,by rw[hs];exact h.size,λk h1 h2=>(hk k λe=>h2 ((h.lt b B k D (.inl e)).2 h1)).trans (h.kept k h1 h2),λo o' B B' k h1 h2=>h.inj o o' B B' k (Jk h1).2 (Jk h2).2,?_,λo B k D=>by rw[hs];exact h.lt o B k (Jk D).2,λo B k D=>h.new o B k (Jk D).2,
  ⟨λo B h1 D=>h.stay.1 o B h1 (Jk D).2,λo ob B h1 ho D=>by obtain⟨hne,ob',h2,_⟩:=YX _ _ _ ho;rw[KK hne];exact h.stay.2 o ob' B h1 h2 D⟩,h.tmps,h.defers.mono hI,?_,?_⟩
 ·intro o B D
  obtain⟨h1,h2⟩:=Jk D
  obtain⟨ob,hob⟩:=h.dom o B h2
  exact⟨_,Jj _ _ _ h1 hob⟩
 ·intro t v hv
  obtain⟨v',hv',rfl⟩:=FF _ _ _ hv
  obtain⟨x,hx,hr⟩:=h.frame t v' hv'
  exact⟨x,hx,hr.kill hφ hI⟩
 intro o ob hob
 obtain⟨hne,ob',hob',rfl⟩:=YX _ _ _ hob
 rcases h.heap o ob' hob' with⟨B',hB',hr⟩|⟨h1,hz⟩
 ·exact .inl ⟨B',hφ o B' hne hB',hr.kill hφ hI λk hk'=>hk k λe=>hne (h.inj o b B' B k hB' D hk' (.inl e))⟩
 exact .inr ⟨by rw[KK hne];exact h1,hz.kill⟩
def snap (h:L_ Nat)(fr:S_)(n:Nat):L_ V:=(List.range n).map λt=>bif XD h t then(match look fr t with
 | some v=>v
 | none=>.J)else .J
def RR.snap {ts:L_ Nat}(h:RR C φ σ a w):∀(j:Nat) x v,a.tmps[j]? = some x->(snap ts σ.fr C.n)[j]? = some v->QO φ (QZ C φ w) w x v:=by
 intro j x v hx D
 simp only[Vm.snap,XY,XX]at D
 obtain⟨t,ht,rfl⟩:=D
 obtain⟨_,rfl⟩:=Xa.1 ht
 simp only[Sj]at *
 cases hm:XD ts j with
 | false=>exact .dat (.J _)
 | true=>
 simp only[QY]
 split
 ·rename_i v D
  obtain⟨y,hy,hr⟩:=h.frame _ _ D
  rw[hx]at hy;cases hy;exact hr
 exact .dat (.J _)
def rgV (P:Program)(σ:St)(f:Nat)(vs:L_ V)(M N:L_ (Nat×Nat))(dead:L_ Nat)(ms:L_ Mode)(outs:H_)(r:V):O_ (St×Prop):=
 bif DY σ M N dead outs&&BD (M.map Prod.fst)&&BD (N.map Prod.fst)then match NO (Gr M) ms vs with
  | some us=>match FL (Gr M) (look σ.hp) M with
   | some h=>match FL (Gr N) (look outs) N with
    | some D=>some (σ.after dead D,QX P f us h (Gives r outs))
    | none=>none
   | none=>none
  | none=>none
 else none
def atJ (p:Prop)(f:Code->Prop):O_ Code->Prop
 | none=>p
 | some c=>f c
end
section
variable {P:Program}{C:Xx}{φ:Nat->O_ QS}{σ:St}{a:Act}{w:World}{o:Oper}
def Qcy (P:Program)(T:TypeId)(i:Nat):O_ (Nat×Bool×Nat):=match P.underlying T with
 | some (.struct fs)=>match fs[i]? with
  | some f=>match EA P f.type with
   | some g=>match Aq P f.type with
    | some n=>some (f.offset,g,n)
    | none=>none
   | none=>none
  | none=>none
 | _=>none
def QkH {T i off n:Nat}{g:Bool}(h:Qcy P T i=some (off,g,n)):∃(fs:Array Field) (f:Field),P.underlying T=some (.struct fs)/\fs[i]? = some f/\f.offset=off/\EA P f.type=some g/\Aq P f.type=some n:=by
 unfold Qcy at h
 split at h
 ·rename_i fs hu
  split at h
  ·rename_i f D
   split at h
   ·rename_i g' hg
    split at h
    ·rename_i n' hn;cases h;exact⟨fs,f,hu,D,rfl,hg,hn⟩
    cases h
   cases h
  cases h
 cases h
def Stp.field {T i d off n:Nat}{g:Bool}{x:Operand}{cs:L_ V}{v:V}(ho:o.op=.field T x i)(hd:o.dst=some d)(hn:B_ d C)(hx:σ.opd x=some (.agg cs))(hT:Qcy P T i=some (off,g,n))
  (h:(bif g then some (.agg ((cs.drop off).take n))else cs[off]?)=some v):Stp P C o σ (σ.put d v):=by
 refine Stp.same hd hn λφ a w hr=>?_
 obtain⟨fs,f,hu,hf,rfl,hg,hsz⟩:=QkH hT
 obtain⟨xs,he,hs,hc⟩:=(hr.opd hx).agg_inv
 cases g with
 | true=>
  cases h
  refine⟨.agg (xs.extract f.offset (f.offset+n)),?_,.agg _ _ (by simp;omega) λj x v hj h=>?_⟩
  ·simp only[execOp,ho,he,Instr.field,Xk,run_underlying hu,Xv,hf,part,asAgg,Xy,Vz hg,if_true,QaN hsz]
  rw[Array.getElem?_extract]at hj
  split at hj
  ·rw[KD]at h
   split at h
   ·rw[An]at h;exact hc _ x v hj h
   cases h
  cases hj
 | false=>
  simp only[Xh]at h
  have D:f.offset<xs.size:=by rw[hs];exact(Xa.1 h).1
  refine⟨xs[f.offset],?_,hc _ _ v (GG D) h⟩
  simp[execOp,ho,he,Instr.field,Xk,run_underlying hu,hf,part,asAgg,Vz hg,D]
def QlL : ∀(ms:L_ (O_ Nat)) (h:L_ V),(Dt ms h).length=h.length:=by
 intro ms
 induction ms with
 | nil=>intro h;cases h<;>rfl
 | cons m ms D=>intro h;cases h with
  | nil=>rfl
  | cons c h=>simp[Dt,D]
def XC.den1 {I:Nat->Prop}{w:World}{x:Value}{v:V}{m:O_ Nat}(h:XC I w x v):XC I w x (Vm.den1 m v):=by
 unfold Vm.den1
 split
 ·cases h;exact .sl0 _ _ _
 exact h
def Qm1 {m:O_ Nat}{v:V}(h:v.one=true):(Vm.den1 m v).one=true:=by
 unfold Vm.den1
 split
 ·rfl
 exact h
def R.denilA {b z:Nat}{rs:L_ (L_ V)}{ms:L_ (O_ Nat)}(hb:look σ.hp b=some (.arr z rs))(h:R C σ a w):R C (σ.set b (.arr z (rs.map (Dt ms)))) a w:=by
 obtain⟨φ,D⟩:=h
 have hden:∀(ms:L_ (O_ Nat)) (r:L_ V),(∀v∈r,v.one=true)->∀v∈Dt ms r,v.one=true:=by
  intro ms
  induction ms with
  | nil=>intro r D;cases r<;>exact D
  | cons m ms ih=>intro r D;cases r with
   | nil=>exact D
   | cons c r=>
    intro v hv
    rcases Yl.1 hv with rfl | hv
    ·exact Qm1 (D c XR)
    exact ih r (λv hv=>D v (XZ _ hv)) v hv
 by_cases hne:rs=[]
 ·subst hne
  exact⟨φ,D.sayOb (ob':=.arr z []) hb (λ_ _ h=>h) (.inl rfl)⟩
 refine⟨φ,D.sayOb hb (λB hB hrep=>?_) (.inr λe=>hne e)⟩
 obtain⟨h1,h2,h3,cs,E,h4,h5,h6⟩:=hrep
 refine⟨h1,by simpa using h2,λr hr'=>?_,cs,E,h4,h5,λi r hi j v hj=>?_⟩
 ·obtain⟨r0,hr0,rfl⟩:=Yh.1 hr'
  exact⟨by rw[QlL];exact(h3 r0 hr0).1,hden _ _ (h3 r0 hr0).2⟩
 rw[XY]at hi
 obtain⟨r0,hi0,rfl⟩:=XX.1 hi
 obtain⟨m,v',hv',rfl⟩:=SQ _ _ j v hj
 obtain⟨x,hx,hD⟩:=h6 i r0 hi0 j v' hv'
 exact⟨x,hx,hD.den1⟩
def AK.denilA {Q:Exit->St->Prop}{pt:Pt}{ks:L_ Fr}{b z:Nat}{rs us:L_ (L_ V)}(ms:L_ (O_ Nat))(D:look σ.hp b=some (.arr z rs))(he:rs.map (Dt ms)=us)(k:AK P C Q pt ks (σ.set b (.arr z us))):AK P C Q pt ks σ:=by
 subst he
 exact AK.weaken (λa w h=>R.denilA D h) k
def Qjc {α:Type}{f:α->L_ V}{n:Nat}{x:α}{r:L_ V}{ms:L_ (O_ Nat)}(h:Dt ms r=f x):(List.replicate n r).map (Dt ms)=(List.replicate n x).map f:=by simp[h]
end
def QoK {p:Prop}{f:Code->Prop}{q:Nat}(h:(q==0)=true)(k:p):atJ p f (ZT q):=by rw[eq_of_beq h];exact k
def Qp6 {p:Prop}{f:Code->Prop}{q:Nat}(h:(q==2)=true)(k:f .ret):atJ p f (ZT q):=by rw[eq_of_beq h];exact k
def rfs : Code->L_ (Array Tmp×Code×Code)
 | .seq x y=>rfs x++rfs y
 | .cond _ x y=>rfs x++rfs y
 | .block _ x=>rfs x
 | .loop x=>rfs x
 | .rangeFunc _ h a b=>[(h,a,b)]
 | _=>[]
def QoL (f:Func)(k fn:Nat):Bl:=match f.body with
 | some c=>match (rfs c)[k]? with
  | some (h,a,b)=>⟨fn,h,a,b⟩
  | none=>⟨fn,#[],.skip,.skip⟩
 | none=>⟨fn,#[],.skip,.skip⟩
def yV (P:Program)(σ:St)(l d:Nat)(K:Bl)(vs:L_ V)(M N:L_ (Nat×Nat))(dead:L_ Nat)(ms:L_ Mode)(outs:H_)(r:V):O_ (St×Prop):=
 bif DY σ M N dead outs&&BD (M.map Prod.fst)&&BD (N.map Prod.fst)then match NO (Gr M) ms vs with
  | some us=>match FL (Gr M) (look σ.hp) M with
   | some h=>match FL (Gr N) (look outs) N with
    | some D=>match trV (Gr N) r with
     | some r'=>some ((σ.after dead D).put d r',Re P l K us h (Gives r outs))
     | none=>none
    | none=>none
   | none=>none
  | none=>none
 else none
section
variable {P:Program}{C:Xx}{σ σ':St}{o:Oper}
def Stp.yieldV {d b l:Nat}{K:Bl}{cs:L_ V}{q:Nat}{x:Operand}{D:Array Operand}{ts:Array TypeId}{M N:L_ (Nat×Nat)}{dead:L_ Nat}{outs:H_}{vs us:L_ V}{ms:L_ Mode}{r:V}{φ:Prop}(ho:o.op=.call { callee:=.value x,args:=D,argTypes:=ts })
  (hx:σ.opd x=some (.clo (.yield l) [] [])) (hlp:look σ.hp b=some (.lp l K cs q)) (hq:q=0) (ha:σ.opsV D.toList=some vs) (hps:vs.length=K.ps.size) (hd:o.dst=some d) (hn:B_ d C) (hpg:C.pg P)
  (hu:QfT cs K.ps.toList vs=us) (e:yV P σ l d K us M N dead ms outs r=some (σ',φ)) (hφ:φ):Stp P C o σ σ':=by
 unfold yV at e
 replace e:=XL e;obtain⟨e1,e⟩:=e
 simp only[QJ]at e1
 obtain⟨⟨h1,h2⟩,h3⟩:=e1
 have h2:=Du.1 h2
 have h3:=Du.1 h3
 have inj:HN M=true/\HN N=true:=by
  simp only[DY,QJ]at h1
  exact⟨h1.1.1.1,h1.1.1.2⟩
 have mM:∀a b,Gr M a=some b->look M b=some a:=λa b h=>KL inj.1 (FG h) h2
 have mN:∀a b,Gr N a=some b->look N b=some a:=λa b h=>KL inj.2 (FG h) h3
 split at e
 ·rename_i us hus
  split at e
  ·rename_i hsC hC
   split at e
   ·rename_i hsN hN
    split at e
    ·rename_i r' hr
     cases e
     subst hu
     exact Stp.yield ho hx hlp hq ha hps hd hn hpg h1 h2 (LR mM hus) (Gw mM hC) hφ (Gw mN hN) (Nt mN hr)
    cases e
   cases e
  cases e
 cases e
end
section
variable {P:Program}{C:Xx}{φ:Nat->O_ QS}{σ:St}{a:Act}{w:World}{o:Oper}
def QbE {D:Array Value}{z m i:Nat}(hz:D.size=z)(h0:0<z)(h:i<m*z):(Builtin.zeroCells D m).toList[i]? = D[i % z]? := by
 have h2:i % z<D.size:=by rw[hz];exact Nat.mod_lt _ h0
 simp only[Builtin.zeroCells,hz,Array.toList_map,Array.toList_range,XY,List.getElem?_range h,JD,Array.getElem!_eq_getD,Rz,GG h2,GH]
def RR.clearTail {b n l z e:Nat}{rs:L_ (L_ V)}{zs:L_ V}{zv:Value}{B:QS}(hr:RR C φ σ a w)(hb:look σ.hp b=some (.arr z rs))(hrn:rs.length=n)(hB:φ b=some B)(hzs:zv.cells.toList.map UX=zs)(hzl:zs.length=z)(h0:0<z)(hzo:zs.all V.one=true)
  (hln:l<=n):∃w',(storeCells ⟨B.b,B.off+l*z,none⟩ (Builtin.zeroCells zv.cells (n-l)).toList).run P w=.ok () w'/\RR C φ (σ.set b (.arr z (rs.take l++List.replicate (n-l) zs))) a w':=by
 obtain⟨hz,hrl,hok,xs,E,e1,e2,e3⟩:=hr.block hB hb
 subst hz
 have hcs:zv.cells.size=B.z:=by rw[<-hzl,<-hzs];simp
 rw[XF]at hzo
 have D:(Builtin.zeroCells zv.cells (n-l)).toList.length=(n-l)*B.z:=by simp[Builtin.zeroCells,hcs]
 have hmul:l*B.z+(n-l)*B.z=n*B.z:=by rw[<-Ww];congr 1;omega
 have hnc:n*B.z<=B.cap*B.z:=YZ _ (by omega)
 have hone:∀v∈(Builtin.zeroCells zv.cells (n-l)).toList,v.oneCell'=true:=by
  intro v hv
  obtain⟨i,hi⟩:=Ey.1 hv
  have hil:i<(n-l)*B.z:=by rw[<-D];exact(Xa.1 hi).1
  rw[QbE hcs h0 hil]at hi
  have hm:(UX v)∈zs:=by rw[<-hzs];exact List.mem_map_of_mem (QeE.2 (Array.mem_of_getElem? hi))
  exact((QO.dat (φ:=φ) (I:=λ_=>True) (w:=w) (XC.const v)).oneCell (hzo _ hm)).2
 generalize hZ:(Builtin.zeroCells zv.cells (n-l)).toList=Z at D hone
 have hrun:=run_storeCells_at P B.b (B.off+l*B.z) E Z 0 xs w e1 (by rw[D];omega) hone
 simp only[PI]at hrun
 refine⟨_,hrun,?_⟩
 have hl1:(xs.toList.take (B.off+l*B.z)++Z++xs.toList.drop (B.off+l*B.z+Z.length)).length=xs.size:=by simp[D];omega
 refine hr.write hB rfl rfl rfl (by simp) (λk hk=>setRow_other w B.b k _ hk) ⟨rfl,by simp;omega,?_,_,E,setRow_heap w B.b xs _ E _ e1,?_,?_⟩
 ·intro r' hr'
  rcases YI.1 hr' with h | h
  ·exact hok r' (Bj h)
  rw[QaJ h];exact⟨hzl,hzo⟩
 ·simp only[List.size_toArray,hl1];exact e2
 have hI:∀k,QZ C φ w k->QZ C φ (w.setRow B.b (xs.toList.take (B.off+l*B.z)++Z++xs.toList.drop (B.off+l*B.z+Z.length)).toArray) k/\
   (w.setRow B.b (xs.toList.take (B.off+l*B.z)++Z++xs.toList.drop (B.off+l*B.z+Z.length)).toArray).heap[k]? = w.heap[k]?:=
  λk hk=>⟨⟨by simpa using hk.1,hk.2⟩,setRow_other w B.b k _ λe=>hk.2.2 b B hB (.inl e)⟩
 intro i r hi j v hj
 by_cases hil:i<l
 ·rw[Jx (by simp;omega),KD,if_pos hil]at hi
  obtain⟨y,hy,hD⟩:=e3 i r hi j v hj
  have hjz:j<B.z:=by rw[<-(hok r (XE hi)).1];exact(Xa.1 hj).1
  have hlt:i*B.z+j<l*B.z:=by
   have:(i+1)*B.z<=l*B.z:=YZ _ hil
   rw[Ww]at this;omega
  refine⟨y,?_,hD.mono hI⟩
  have hyl:=(Uf.1 hy).1
  rw[Iy,WI,Jx (by simp;omega),KD,if_pos (by omega)];simpa using hy
 rw[Wg (by simp;omega)]at hi
 simp only[WJ,hrn,Fe hln]at hi
 rw[List.getElem?_replicate]at hi
 split at hi
 ·rename_i hin
  cases hi
  have hjz:j<B.z:=by rw[<-hzl];exact(Xa.1 hj).1
  rw[<-hzs,XY]at hj
  obtain⟨y,hy,rfl⟩:=XX.1 hj
  refine⟨y,?_,XC.const y⟩
  have hidx:(i-l)*B.z+j<(n-l)*B.z:=by
   have:(i-l+1)*B.z<=(n-l)*B.z:=YZ _ hin
   rw[Ww]at this;omega
  have hsum:i*B.z=l*B.z+(i-l)*B.z:=by rw[<-Ww];congr 1;omega
  rw[Iy,WI,Wg (by simp;omega),Jx (by simp[D];omega)]
  have:B.off+(i*B.z+j)-(xs.toList.take (B.off+l*B.z)).length=(i-l)*B.z+j:=by simp;omega
  rw[this,<-hZ,QbE hcs h0 hidx]
  have hm:((i-l)*B.z+j) % B.z=j:=by rw[Nat.add_comm,Nat.add_mul_mod_self_right,Nat.mod_eq_of_lt hjz]
  rw[hm];simpa using hy
 cases hi
def AK.clearTail {Q:Exit->St->Prop}{ks:L_ Fr}{ops:Array Oper}{rest:L_ Oper}{o1 o2:Oper}{T d b n l z e by_:Nat}{x lo:Operand}{rs us:L_ (L_ V)}{zs:L_ V}(hg1:o1.guard=none)(hg2:o2.guard=none)
  (ho1:o1.op=.slice T x (some lo) none none) (hd1:o1.dst=some d) (ho2:o2.op=.call { callee:=.builtin .clear,args:=#[.tmp d],argTypes:=#[T] }) (hd2:o2.dst=none) (hn:B_ d C)
  (hx:σ.opd x=some (.own b n)) (hb:look σ.hp b=some (.arr z rs)) (hrn:rs.length=n) (hT:Yi P T=some (e,z,by_)) (hz:XJ P e=some zs) (hzl:zs.length=z) (h0:Nat.ble 1 z=true) (hzo:zs.all V.one=true) (hl:EX σ 0 (some lo) l) (hln:l<=n)
  (hu:rs.take l++List.replicate (n-l) zs=us) (k:AK P C Q (.o ops rest) ks ((σ.set b (.arr z us)).put d .J)):AK P C Q (.o ops (o1::o2::rest)) ks σ:=by
 intro a w ⟨φ,hr⟩
 subst hu
 have h0:=JN h0
 obtain⟨hu,i,hi',hiz,_⟩:=Kn hT
 obtain⟨i',zv,hi2,hz',hzs⟩:=Ct hz
 have key:∃x1 w',(execOp a.eval o1).run P w=.ok (.value x1) w/\(Builtin.clear_ #[T] o2.type #[x1]).run P w=.ok (.tuple #[]) w'/\RR C φ (σ.set b (.arr z (rs.take l++List.replicate (n-l) zs))) a w':=by
  rcases(hr.opd hx).own_inv with⟨he,rfl⟩|⟨B,hB,hcap,he⟩
  ·have l0:l=0:=by omega
   subst l0
   have:rs=[]:=Iz.1 hrn
   subst this
   refine⟨.slice none 0 0,w,?_,?_,hr.sayOb (ob':=.arr z []) hb (λ_ _ h=>h) (.inl rfl)⟩
   ·have D:=ED (P:=P) (b:=true) hr hl (.no (dflt:=0)) (by omega) (by omega:0<=0)
    simp only[JD,LO]at D
    simp[execOp,ho1,he,Instr.sliceAt,Instr.slice,run_underlying hu,D,sizeOf,typeInfo,hi']
   simp[Builtin.clear_,run_underlying hu]
  have D:=ED (P:=P) (b:=true) hr hl (.no (dflt:=n)) hln (by omega:n<=B.cap)
  simp only[JD,LO]at D
  by_cases hcl:B.cap=l
  ·have hln2:n-l=0:=by omega
   refine⟨.slice (some ⟨B.b,B.off,none⟩) 0 0,w,?_,?_,?_⟩
   ·simp only[execOp,ho1,he,Instr.sliceAt,Instr.slice,run_underlying hu,D,sizeOf,typeInfo,hi',Xk,Xy,run_program,Xv,JD,LO]
    simp[hcl];omega
   ·simp[Builtin.clear_,run_underlying hu]
   rw[hln2,List.replicate_zero,Vr,Kl (by omega)]
   exact hr.sayOb hb (λ_ _ h=>h) (.inl rfl)
  obtain⟨w',hw,hr'⟩:=hr.clearTail (P:=P) (l:=l) (e:=e) hb hrn hB hzs hzl h0 hzo hln
  refine⟨.slice (some ⟨B.b,B.off+l*z,none⟩) (n-l) (B.cap-l),?_⟩
  have hex:(execOp a.eval o1).run P w=.ok (.value (.slice (some ⟨B.b,B.off+l*z,none⟩) (n-l) (B.cap-l))) w:=by
   simp only[execOp,ho1,he,Instr.sliceAt,Instr.slice,run_underlying hu,D,sizeOf,typeInfo,hi',Xk,Xy,run_program,Xv,JD,LO,if_neg hcl,hiz,Addr.add_lit]
  by_cases hnl:n-l=0
  ·refine⟨w,hex,?_,?_⟩
   ·rw[hnl];simp[Builtin.clear_,run_underlying hu]
   rw[hnl,List.replicate_zero,Vr,Kl (by omega)]
   exact hr.sayOb hb (λ_ _ h=>h) (.inl rfl)
  refine⟨w',hex,?_,hr'⟩
  obtain⟨m,hm⟩:∃m,n-l=m+1:=⟨n-l-1,by omega⟩
  rw[hm]at hw ⊢
  rw[hi2]at hi';cases hi'
  simp only[Builtin.clear_,Xk,run_underlying hu,Xv,Xy,zeroValue,typeInfo,run_program,hi2,hz',Iy,List.getElem?_cons_zero]
  simp[hw,hz']
 obtain⟨x1,w',hex,hcl,hr'⟩:=key
 have hput:∀t,(a.put (some d) x1).tmps[t]? = if t=d then(if d<a.tmps.size then some x1 else none)else a.tmps[t]? := λt=>by
  simp only[Act.put,Zp]
  by_cases e:d=t
  ·subst e;simp
  simp[e,Ne.symm e]
 have hev:(a.put (some d) x1).eval (.tmp d)=x1:=by
  have hlt:d<a.tmps.size:=by rw[hr.tmps];exact XB hn
  simp[Act.eval,Act.put,Rz,Zp,hlt]
 have hex2:(execOp (a.put (some d) x1).eval o2).run P w=.ok (.value (.tuple #[])) w':=by
  simp only[execOp,ho2,resolve,invoke,builtin,Xk,Xy,Xv,List.map_toArray,Gt,List.map_nil,hev,hcl]
 show wpListIn C.F 0 P ops (up C (unw P C Q ks)) (o1::o2::rest) a w
 simp only[wpListIn,Region.wanted,hg1,if_true]
 refine⟨λ_ _=>trivial,?_⟩
 rw[QfF hex,Oper.uponIn_value,hd1]
 simp only[wpListIn,Region.wanted,hg2,if_true]
 refine⟨λ_ _=>trivial,?_⟩
 rw[QfF hex2,Oper.uponIn_value,hd2]
 exact k _ _ ⟨φ,hr'.put (XB hn) (.dat (.J x1))⟩
def QoM {α:Type}{f:α->L_ V}{e:L_ α}{l k:Nat}{zs:L_ V}{x:α}{ms:L_ (O_ Nat)}(h:∀y,Dt ms (f y)=f y)(D:Dt ms zs=f x):((e.map f).take l++List.replicate k zs).map (Dt ms)=(e.take l++List.replicate k x).map f:=by
 have h3:Dt ms∘f=f:=funext h
 simp[List.map_take,D,h3]
def QlM {α:Type}{b l:Nat}{e:L_ α}{x:α}(h:l<=e.length):V.own b e.length=V.own b (e.take l++List.replicate (e.length-l) x).length:=by
 congr 1;simp;omega
end
end Go.Vm
namespace Go.Vm
open Go Go.RowKit Go.Proofs Go.Sort Go.Shelf
def ID (l:L_ Int):L_ Int:=l.mergeSort λx y=>decide (x<=y)
def FO (x:Int):L_ V:=[V.i .i64 x]
def QhT (l:L_ Int):(ID l).length=l.length:=List.length_mergeSort ..
def QjO {P:Program}{ρ:Ren}(Ly:Lays.n189 P ρ)(zs:L_ Int)(hz:zs.length<4611686018427387904):
  QX P (ρ.f 189) [.own 618 zs.length] [(618,.arr 1 (zs.map FO))] (Gives (.tup []) [(618,.arr 1 ((ID zs).map FO))]):=by
 intro S φ w vals hi _
 have hs:=hi.size
 obtain⟨v0,hv0⟩:∃v0,vals=#[v0]:=by
  obtain⟨l⟩:=vals
  match l,hs with
  | [x],_=>exact⟨x,rfl⟩
 subst hv0
 have ha:=hi.args 0 v0 _ rfl rfl
 rcases ha.own_inv with⟨hx,hn⟩|⟨B,hB,hn,hx⟩
 ·have h0:zs=[]:=QiC hn
  subst h0;subst hx
  refine(Any.slices_Sort_int_none Ly none 0 w).mono ?_
  rintro e w' ⟨rfl,rfl⟩
  refine⟨.tuple #[],.tup [],[(618,.arr 1 [])],φ,rfl,⟨rfl,λc ob h=>by simpa[ID] using h⟩,rfl,rfl,rfl,Jp _,λ_ _ _=>rfl,hi.inj,λo B h=>?_,λo B k h D=>?_,λo B k h D hlt=>?_,⟨λo B _ h=>h,λo ob B _ _ h=>h⟩,.dat (.tup _ _ rfl λj x v h=>by simp at h),λo ob h=>?_⟩
  ·obtain⟨_,_,ob,hob⟩:=hi.dom o B h;exact⟨ob,hob⟩
  ·obtain⟨_,h2,_⟩:=hi.dom o B h
   exact⟨(h2 k D).1,λ_=>⟨o,B,h,D⟩⟩
  ·obtain⟨h1,_,_⟩:=hi.dom o B h;omega
  have hS:∀k,S k->SS S φ w' w' k/\w'.heap[k]? = w'.heap[k]? := λk D=>⟨⟨hi.lt k D,λ_=>D,λo B h hb=>((hi.dom o B h).2.1 k hb).2 D⟩,rfl⟩
  rcases hi.heap o ob h with⟨B,hB,hr⟩|hn
  ·exact .inl ⟨B,hB,hr.mono (λ_ _ h=>h) hS λ_ _=>rfl⟩
  exact .inr hn
 subst hx
 have hob:YM φ S w B (.arr 1 (zs.map FO)):=by
  rcases hi.heap 618 _ (QB _ _ _)with⟨B',hB',hr⟩|⟨hn',_⟩
  ·rw[hB]at hB';cases hB';exact hr
  rw[hB]at hn';cases hn'
 obtain⟨hz1,hle,hok,cs,E,hb,hsz,hcell⟩:=hob
 have hlt:B.b<w.heap.size:=((hi.dom _ _ hB).2.1 _ B.self).1
 have hrow:∀(l:L_ Int) (i:Nat) (x:Int),l[i]? = some x->(l.map FO)[i]? = some (FO x):=λl i x h=>by rw[XY,h];rfl
 have hc:∀(i:Nat) x,zs[i]? = some x->cs[B.off+i]? = some (.int .i64 x):=λi x h=>by
  obtain⟨y,hy,hd⟩:=hcell i _ (hrow _ i x h) 0 (.i .i64 x) rfl
  rw[show i*1+0=i by omega]at hy
  rw[hy];cases hd;rfl
 have hH:Holds (Value.int .i64) w B.b B.off zs.toArray:=λj hj=>by
  have hj':j<zs.length:=by simpa using hj
  have h1:=hc j zs[j] (Qx hj')
  have h2:zs.toArray[j]! = zs[j]:=by simp[hj']
  refine⟨?_,?_⟩
  ·rw[h2];simp[World.cell?,hb,h1]
  simp[World.frozen?,hb]
 refine(Any.slices_Sort_int Ly B.b B.off B.cap zs w hH hlt hz).mono ?_
 rintro e w' ⟨rfl,n,os,rfl⟩
 have hh:∀k,k<w.heap.size->(grow (putRow (Value.int .i64) (Sort.ahead w n) B.b B.off (ID zs).toArray) os).heap[k]? = (w.heap.modify B.b (onCells (putCells (Value.int .i64) B.off (ID zs).toArray)))[k]? := λk D=>by
  rw[heap_grow_old _ _ (by rw[size_putRow];exact D)];rfl
 have ho:∀k,k<w.heap.size->k≠B.b->(grow (putRow (Value.int .i64) (Sort.ahead w n) B.b B.off (ID zs).toArray) os).heap[k]? = w.heap[k]? := λk D hne=>by
  rw[hh k D,QgV,if_neg (Ne.symm hne)]
 have hsize:w.heap.size<=(grow (putRow (Value.int .i64) (Sort.ahead w n) B.b B.off (ID zs).toArray) os).heap.size:=by
  rw[size_grow,size_putRow];exact Nat.le_add_right _ _
 have hme:(grow (putRow (Value.int .i64) (Sort.ahead w n) B.b B.off (ID zs).toArray) os).heap[B.b]? = some (.cells (putCells (Value.int .i64) B.off (ID zs).toArray cs) E (0,0)):=by
  rw[hh _ hlt,QgV,if_pos rfl,hb];rfl
 have hall:∀o' B',φ o'=some B'->o'=618:=λo' B' h'=>by
  obtain⟨_,_,ob,hob⟩:=hi.dom o' B' h'
  by_cases e:618=o'
  ·exact e.symm
  rw[Qy _ _ e]at hob;cases hob
 refine⟨.tuple #[],.tup [],[(618,.arr 1 ((ID zs).map FO))],φ,rfl,⟨rfl,λc ob h=>h⟩,rfl,rfl,rfl,hsize,λk D hno=>?_,hi.inj,λo B h=>?_,λo B k h D=>?_,λo B k h D hl=>?_,⟨λo B _ h=>h,λo ob B _ _ h=>h⟩,.dat (.tup _ _ rfl λj x v h=>by simp at h),λo ob h=>?_⟩
 ·exact ho k D λe=>hno 618 B hB (e▸B.self)
 ·rw[hall o B h];exact⟨_,QB _ _ _⟩
 ·obtain⟨_,h2,_⟩:=hi.dom o B h
  exact⟨Ap (h2 k D).1 hsize,λ_=>⟨o,B,h,D⟩⟩
 ·obtain⟨h1,_,_⟩:=hi.dom o B h;omega
 by_cases e:618=o
 ·subst e
  rw[QB]at h;cases h
  refine .inl ⟨B,hB,hz1,?_,?_,_,E,hme,?_,?_⟩
  ·rw[Gs,QhT];rw[Gs]at hle;exact hle
  ·intro r hr;obtain⟨x,_,rfl⟩:=Yh.1 hr
   exact⟨rfl,λv hv=>by simp[FO]at hv;subst hv;rfl⟩
  ·simpa[putCells] using hsz
  intro i r hi' j v hj
  rw[XY]at hi'
  obtain⟨x,hx,rfl⟩:=XX.1 hi'
  have hil:i<(ID zs).length:=(Xa.1 hx).1
  have hil':i<zs.length:=by rw[QhT]at hil;exact hil
  match j,hj with
  | 0,hj=>
   cases hj
   refine⟨.int .i64 x,?_,.i _ _⟩
   rw[show i*1+0=i by omega]
   have h1:=hc i zs[i] (Qx hil')
   have h2:(ID zs).toArray[i]! = x:=by
    have:=Xa.1 hx
    obtain⟨h3,h4⟩:=this
    simp[h3,h4]
   simp only[putCells,Array.getElem?_mapIdx,h1,JD]
   rw[if_pos ⟨by omega,by simp;omega⟩,show B.off+i-B.off=i by omega,h2]
  | j+1,hj=>simp[FO]at hj
 rw[Qy _ _ e]at h;cases h
def Qg8 (x:Int):L_ Int->L_ Int
 | []=>[x]
 | y::l=>bif decide (x<=y)then x::y::l else y::Qg8 x l
def JG : L_ Int->L_ Int
 | []=>[]
 | x::l=>Qg8 x (JG l)
def QhU (x:Int)(l:L_ Int):(Qg8 x l).Perm (x::l):=by
 induction l with
 | nil=>exact .refl _
 | cons y l h=>
  rw[Qg8]
  cases decide (x<=y)with
  | true=>exact .refl _
  | false=>exact(h.cons y).trans (.swap x y l)
def Qn9 {x:Int}{l:L_ Int}(h:l.Pairwise (·<=·)):(Qg8 x l).Pairwise (·<=·):=by
 induction l with
 | nil=>exact Vu _ _
 | cons y l ih=>
  obtain⟨h1,h2⟩:=Vt.1 h
  rw[Qg8]
  cases c:decide (x<=y)with
  | true=>
   have c:=Xw c
   refine Vt.2 ⟨λz D=>?_,h⟩
   rcases Yl.1 D with rfl | D
   ·exact c
   have:=h1 z D;omega
  | false=>
   have c:=of_decide_eq_false c
   refine Vt.2 ⟨λz D=>?_,ih h2⟩
   rcases Yl.1 ((QhU x l).mem_iff.1 D)with rfl | D
   ·omega
   exact h1 z D
def NR (l:L_ Int):(JG l).Perm l:=by
 induction l with
 | nil=>exact .refl _
 | cons x l h=>exact(QhU x _).trans (h.cons x)
def Zv (l:L_ Int):(JG l).Pairwise (·<=·):=by
 induction l with
 | nil=>exact List.Pairwise.nil
 | cons x l h=>exact Qn9 h
def Qbb (l:L_ Int):JG l=l.mergeSort λx y=>decide (x<=y):=by
 refine List.Perm.eq_of_pairwise (le:=λx y:Int=>x<=y) (λa b _ _ D h2=>by omega) (Zv l) ?_ ((NR l).trans (List.mergeSort_perm l _).symm)
 exact(List.pairwise_mergeSort (le:=λx y:Int=>decide (x<=y)) (λa b c D h2=>by simp at *;omega) (λa b=>by simp;omega) l).imp λh=>by simpa using h
def Cu (l:L_ Int):(JG l).length=l.length:=(NR l).length_eq
def QjP {P:Program}{ρ:Ren}(D:Lays.n189 P ρ)(zs:L_ Int)(hz:zs.length<4611686018427387904):
  QX P (ρ.f 189) [.own 618 zs.length] [(618,.arr 1 (zs.map FO))] (Gives (.tup []) [(618,.arr 1 ((JG zs).map FO))]):=by
 have h:=QjO D zs hz
 rw[show ID zs=JG zs from(Qbb zs).symm]at h
 exact h
def Jz (l:L_ Int):L_ Int:=Lib.compact l
def QjQ {P:Program}{ρ:Ren}(Ly:Lays2.n20 P ρ)(zs:L_ Int)(hz:zs.length<4611686018427387904):
  QX P (ρ.f 20) [.own 618 zs.length] [(618,.arr 1 (zs.map FO))] (Gives (.own 618 (Jz zs).length) [(618,.arr 1 ((Jz zs).map FO))]):=by
 intro S φ w vals hi _
 have hs:=hi.size
 obtain⟨v0,hv0⟩:∃v0,vals=#[v0]:=by
  obtain⟨l⟩:=vals
  match l,hs with
  | [x],_=>exact⟨x,rfl⟩
 subst hv0
 have ha:=hi.args 0 v0 _ rfl rfl
 have hall:∀o' B',φ o'=some B'->o'=618:=λo' B' h'=>by
  obtain⟨_,_,ob,hob⟩:=hi.dom o' B' h'
  by_cases e:618=o'
  ·exact e.symm
  rw[Qy _ _ e]at hob;cases hob
 rcases ha.own_inv with⟨hx,hn⟩|⟨B,hB,hn,hx⟩
 ·have h0:zs=[]:=QiC hn
  subst h0;subst hx
  have hc0:Jz []=[]:=by simp[Jz,Lib.compact,Lib.compactUpTo]
  rw[hc0]
  refine(Any.slices_Compact_int_empty Ly none 0 w).mono ?_
  rintro e w' ⟨rfl,rfl⟩
  refine⟨.slice none 0 0,.own 618 0,[(618,.arr 1 [])],φ,rfl,⟨rfl,λc ob h=>h⟩,rfl,rfl,rfl,Jp _,λ_ _ _=>rfl,hi.inj,λo B h=>?_,λo B k h hk=>?_,λo B k h hk hlt=>?_,⟨λo B _ h=>h,λo ob B _ _ h=>h⟩,.own0 _,λo ob h=>?_⟩
  ·obtain⟨_,_,ob,hob⟩:=hi.dom o B h;exact⟨ob,hob⟩
  ·obtain⟨_,h2,_⟩:=hi.dom o B h
   exact⟨(h2 k hk).1,λ_=>⟨o,B,h,hk⟩⟩
  ·obtain⟨h1,_,_⟩:=hi.dom o B h;omega
  have hS:∀k,S k->SS S φ w' w' k/\w'.heap[k]? = w'.heap[k]? := λk hk=>⟨⟨hi.lt k hk,λ_=>hk,λo B h hb=>((hi.dom o B h).2.1 k hb).2 hk⟩,rfl⟩
  rcases hi.heap o ob h with⟨B,hB,hr⟩|hn
  ·exact .inl ⟨B,hB,hr.mono (λ_ _ h=>h) hS λ_ _=>rfl⟩
  exact .inr hn
 subst hx
 have hob:YM φ S w B (.arr 1 (zs.map FO)):=by
  rcases hi.heap 618 _ (QB _ _ _)with⟨B',hB',hr⟩|⟨hn',_⟩
  ·rw[hB]at hB';cases hB';exact hr
  rw[hB]at hn';cases hn'
 obtain⟨hz1,hle,hok,cs,E,hb,hsz,hcell⟩:=hob
 have hlt:B.b<w.heap.size:=((hi.dom _ _ hB).2.1 _ B.self).1
 have hrow:∀(l:L_ Int) (i:Nat) (x:Int),l[i]? = some x->(l.map FO)[i]? = some (FO x):=λl i x h=>by rw[XY,h];rfl
 have hc:∀(i:Nat) x,zs[i]? = some x->cs[B.off+i]? = some (.int .i64 x):=λi x h=>by
  obtain⟨y,hy,hd⟩:=hcell i _ (hrow _ i x h) 0 (.i .i64 x) rfl
  rw[show i*1+0=i by omega]at hy
  rw[hy];cases hd;rfl
 have hH:Holds (Value.int .i64) w B.b B.off zs.toArray:=λj hj=>by
  have hj':j<zs.length:=by simpa using hj
  have h1:=hc j zs[j] (Qx hj')
  have h2:zs.toArray[j]! = zs[j]:=by simp[hj']
  refine⟨?_,?_⟩
  ·rw[h2];simp[World.cell?,hb,h1]
  simp[World.frozen?,hb]
 have hcl:(Jz zs).length<=zs.length:=by
  unfold Jz Lib.compact Lib.compactUpTo
  rw[Gs]
  exact Ym (IA _ _) (by simp)
 refine(Any.slices_Compact_int Ly B.b B.off B.cap zs w hH (by omega) hn).mono ?_
 rintro e w' ⟨rfl,n,rfl⟩
 change ∃x v hs' φ',Ending.returned (.slice (some ⟨B.b,B.off,none⟩) (Jz zs).length B.cap)=.returned x/\_/\Outs S φ w φ' (putRow (Value.int .i64) (Sort.ahead w n) B.b B.off (Jz zs++List.replicate (zs.length-(Jz zs).length) 0).toArray) x v hs'
 generalize hD:(Jz zs++List.replicate (zs.length-(Jz zs).length) 0).toArray=D
 have hDs:D.size=zs.length:=by subst hD;simp;omega
 have hh:∀k:Nat,(putRow (Value.int .i64) (Sort.ahead w n) B.b B.off D).heap[k]? = (w.heap.modify B.b (onCells (putCells (Value.int .i64) B.off D)))[k]? := λk=>rfl
 have ho:∀k:Nat,k≠B.b->(putRow (Value.int .i64) (Sort.ahead w n) B.b B.off D).heap[k]? = w.heap[k]? := λk hne=>by
  rw[hh k,QgV,if_neg (Ne.symm hne)]
 have hsize:w.heap.size<=(putRow (Value.int .i64) (Sort.ahead w n) B.b B.off D).heap.size:=by
  rw[size_putRow];exact Jp _
 have hme:(putRow (Value.int .i64) (Sort.ahead w n) B.b B.off D).heap[B.b]? = some (.cells (putCells (Value.int .i64) B.off D cs) E (0,0)):=by
  rw[hh _,QgV,if_pos rfl,hb];rfl
 refine⟨_,.own 618 (Jz zs).length,[(618,.arr 1 ((Jz zs).map FO))],φ,rfl,⟨rfl,λc ob h=>h⟩,rfl,rfl,rfl,hsize,λk hk hno=>?_,hi.inj,λo B h=>?_,λo B k h hk=>?_,λo B k h hk hl=>?_,⟨λo B _ h=>h,λo ob B _ _ h=>h⟩,.own _ _ B hB (by omega),λo ob h=>?_⟩
 ·exact ho k λe=>hno 618 B hB (e▸B.self)
 ·rw[hall o B h];exact⟨_,QB _ _ _⟩
 ·obtain⟨_,h2,_⟩:=hi.dom o B h
  exact⟨Ap (h2 k hk).1 hsize,λ_=>⟨o,B,h,hk⟩⟩
 ·obtain⟨h1,_,_⟩:=hi.dom o B h;omega
 by_cases e:618=o
 ·subst e
  rw[QB]at h;cases h
  refine .inl ⟨B,hB,hz1,?_,?_,_,E,hme,?_,?_⟩
  ·rw[Gs];omega
  ·intro r hr;obtain⟨x,_,rfl⟩:=Yh.1 hr
   exact⟨rfl,λv hv=>by simp[FO]at hv;subst hv;rfl⟩
  ·simpa[putCells] using hsz
  intro i r hi' j v hj
  rw[XY]at hi'
  obtain⟨x,hx,rfl⟩:=XX.1 hi'
  have hil:i<(Jz zs).length:=(Xa.1 hx).1
  have hil':i<zs.length:=by omega
  match j,hj with
  | 0,hj=>
   cases hj
   refine⟨.int .i64 x,?_,.i _ _⟩
   rw[show i*1+0=i by omega]
   have h1:=hc i zs[i] (Qx hil')
   have h2:D[i]! = x:=by
    subst hD
    rw[getElem!_pos _ i (by simp;omega)]
    obtain⟨h3,h4⟩:=Xa.1 hx
    simp[List.getElem_append,h3,h4]
   simp only[putCells,Array.getElem?_mapIdx,h1,JD]
   rw[if_pos ⟨by omega,by omega⟩,show B.off+i-B.off=i by omega,h2]
  | j+1,hj=>simp[FO]at hj
 rw[Qy _ _ e]at h;cases h
def Qjd (s:ByteArray):Bool:=decide (s.size<4294967281)&&s.data.toList.all λb=>decide (b.toNat<128)
def Ab (s:ByteArray):L_ ByteArray:=(Lib.fields s.data.toList).map λl=>⟨l.toArray⟩
def Qia {P:Program}{ρ:Ren}(Ly:Lays.n157 P ρ)(hi9:(P.info? (ρ.t 9)).map (fun i=>(i.zero,i.size,i.bytes))=some (some (.string ByteArray.empty),1,16))(hg:P.globalNamed "strings.asciiSpace" = some (ρ.g 0))(s:ByteArray)(hs:Qjd s=true):
  QX P (ρ.f 157) [.s s] [] (Gives (.own 600 (Ab s).length) [(600,.arr 1 ((Ab s).map λx=>[V.s x]))]):=by
 intro S φ w vals hi hG
 have hsz:=hi.size
 obtain⟨v0,hv0⟩:∃v0,vals=#[v0]:=by
  obtain⟨l⟩:=vals
  match l,hsz with
  | [x],_=>exact⟨x,rfl⟩
 subst hv0
 have ha:=(hi.args 0 v0 _ rfl rfl).s_inv
 subst ha
 unfold Qjd at hs
 rw[QJ,decide_eq_true_iff,XF]at hs
 obtain⟨hs1,hs2⟩:=hs
 obtain⟨_,hl,hT⟩:=hG _ hg
 have hno:∀o B,φ o≠some B:=λo B h=>by obtain⟨_,_,ob,hob⟩:=hi.dom o B h;cases hob
 refine(Any.strings_Fields_core Ly hi9 s w hs1 (λj b hb=>by simpa using hs2 b (XE hb)) hT).mono ?_
 rintro e w' ⟨rfl,rfl⟩
 have hlen:(Lib.fields s.data.toList).length=(Ab s).length:=by unfold Ab;simp
 rw[hlen]
 generalize hO:Obj.cells ((Lib.fields s.data.toList).map λl=>Value.string ⟨l.toArray⟩).toArray (ρ.t 9)=O
 have hme:(w.alloc O).heap[w.heap.size]? = some O:=World.alloc_heap_new _ _
 have hold:∀k,k<w.heap.size->(w.alloc O).heap[k]? = w.heap[k]? := λk hk=>Below.heap_alloc w O k hk
 have hsize:(w.alloc O).heap.size=w.heap.size+1:=by simp
 have hφ:∀o B,(ext (λ_=>none) 600 ⟨w.heap.size,(Ab s).length,1,[],0⟩) o=some B->o=600/\B=⟨w.heap.size,(Ab s).length,1,[],0⟩:=λo B h=>by
  unfold ext at h
  split at h
  ·rename_i e;exact⟨e,(Option.some.inj h).symm⟩
  cases h
 have hhas:∀k,(⟨w.heap.size,(Ab s).length,1,[],0⟩:QS).has k->k=w.heap.size:=λk hk=>SK hk
 refine⟨_,.own 600 (Ab s).length,[(600,.arr 1 ((Ab s).map λx=>[V.s x]))],ext (λ_=>none) 600 ⟨w.heap.size,(Ab s).length,1,[],0⟩,rfl,⟨rfl,λc ob h=>h⟩,rfl,rfl,rfl,by rw[hsize];omega,λk hk _=>hold k hk,λo o' B B' k h1 h2 _ _=>by rw[(hφ o B h1).1,(hφ o' B' h2).1],λo B h=>?_,λo B k h hk=>?_,λo B k h hk _=>?_,⟨λo B h1 h2=>by obtain⟨rfl,_⟩:=hφ o B h2;omega,λo ob B _ h2 h3=>absurd h3 (hno o B)⟩,.own _ _ _ (Xb _ _ _) (Jp _),λo ob h=>?_⟩
 ·rw[(hφ o B h).1];exact⟨_,QB _ _ _⟩
 ·obtain⟨_,rfl⟩:=hφ o B h
  have:=hhas k hk
  rw[hsize];exact⟨by omega,λh=>by omega⟩
 ·obtain⟨_,rfl⟩:=hφ o B h
  have:=hhas k hk;omega
 by_cases e:600=o
 ·subst e
  rw[QB]at h;cases h
  refine .inl ⟨_,Xb _ _ _,rfl,by simp,λr hr=>?_,_,_,by rw[hme,<-hO],by rw[<-hlen];simp,λi r hi' j v hj=>?_⟩
  ·obtain⟨x,_,rfl⟩:=Yh.1 hr
   exact⟨rfl,λv hv=>by simp at hv;subst hv;rfl⟩
  rw[XY]at hi'
  obtain⟨x,hx,rfl⟩:=XX.1 hi'
  match j,hj with
  | 0,hj=>
   cases hj
   refine⟨.string x,?_,.s _⟩
   unfold Ab at hx
   rw[XY]at hx
   obtain⟨l,hl',rfl⟩:=XX.1 hx
   simp[hl']
  | j+1,hj=>simp at hj
 rw[Qy _ _ e]at h;cases h
section
variable {P:Program}{C:Xx}{σ:St}{o:Oper}
def He (l:L_ Int):ByteArray:=l.foldl (λr n=>r.push (UInt8.ofNat n.toNat)) ByteArray.empty
def Stp.b2s {S T e d:Nat}{x:Operand}{l:L_ Int}{rows:L_ (L_ V)}(ho:o.op=.convert S T x)(hd:o.dst=some d)(hn:B_ d C)(hx:σ.opd x=some (.sl 1 rows))(hr:rows=l.map λx=>[V.i .u8 x])
  (hS:P.underlying S=some (.slice e)) (he:Qcx P e .u8=true) (hT:QaO P T=true):Stp P C o σ (σ.put d (.s (He l))):=by
 subst hr
 refine Stp.same hd hn λφ a w hr=>⟨.string (He l),?_,.dat (.s _)⟩
 rcases(hr.opd hx).sl_inv with⟨a',cap,hv,h0⟩|⟨b,off,cap,hv,_,_,_,c,hc,D⟩
 ·have:l=[]:=by simpa using h0
  subst this
  simp only[execOp,ho,hv,Xk,run_convert_bytes_string w S T e a' 0 cap hS (Qba he) (SP hT)]
  cases a' with
  | none=>simp[Conv.bytesToString,Xy,He,ByteArray.empty,ByteArray.emptyWithCapacity]
  | some p=>
   rw[run_bytesToString w p 0 cap [] (by rw[run_loadCells w p 0 (λ_=>undef) (λj hj=>absurd hj (Nat.not_lt_zero _))];rfl)]
   simp[Xy,He]
 rw[Gs]at hv hc
 simp only[execOp,ho,hv,Xk,run_convert_bytes_string w S T e _ _ cap hS (Qba he) (SP hT)]
 rw[run_bytesToString w ⟨b,off,none⟩ l.length cap l ?_]
 ·simp[Xy,He]
 rw[run_loadCells w ⟨b,off,none⟩ l.length c (λj hj=>by rw[Addr.add_lit];exact hc j (by omega))]
 congr 1
 have:(List.range l.length).map c=l.map (Value.int .u8):=by
  apply List.ext_getElem?
  intro i
  rw[XY,XY]
  by_cases h:i<l.length
  ·rw[List.getElem?_range h,Qx h]
   have hd:=D i [V.i .u8 l[i]] (by rw[XY,Qx h];rfl) 0 (.i .u8 l[i]) rfl
   rw[show i*1+0=i by omega]at hd
   have:=(QO.dat (φ:=φ) hd).i_inv
   simp[this]
  rw[QfC (by simpa using h),QfC (by simpa using h)];rfl
 rw[this]
def Stp.storeNil {T b i off z zz:Nat}{x y:Operand}{rs h:L_ (L_ V)}{r:L_ V}(ho:o.op=.store T x y)(hd:o.dst=none)(hx:σ.opd x=some (.loc b i off))
  (hb:look σ.hp b=some (.arr z rs)) (hi:rs[i]? = some r) (hy:σ.opd y=some (.lit (.slice none 0 0))) (hs:Aq P T=some 1) (D:Nat.ble (off+1) z=true) (he:rs.set i (Kz r off [.sl zz []])=h):Stp P C o σ (σ.set b (.arr z h)):=
 Stp.storeAV (v:=.sl zz []) ho hd hx hb hi (λφ a w hr=>by rw[(hr.opd hy).lit_inv];exact .dat (.sl0 none 0 zz)) (.inl rfl) hs rfl rfl rfl D he
def Stp.max3 {d:Nat}{x y z:Operand}{k:IntKind}{m n q:Int}{ts:Array TypeId}(ho:o.op=.call { callee:=.builtin .max,args:=#[x,y,z],argTypes:=ts })(D:o.dst=some d)(hn:B_ d C)
  (hx:σ.opd x=some (.i k m)) (hy:σ.opd y=some (.i k n)) (hz:σ.opd z=some (.i k q)):Stp P C o σ (σ.put d (.i k (Vm.max2 (Vm.max2 m n) q))):=by
 refine Stp.same D hn λφ a w h=>⟨.int k (Vm.max2 (Vm.max2 m n) q),?_,.dat (.i _ _)⟩
 simp[execOp,ho,(h.opd hx).i_inv,(h.opd hy).i_inv,(h.opd hz).i_inv,resolve,invoke,builtin,Builtin.max_,Builtin.max2,Vm.max2]
end
def Cl (w:World)(h:L_ Value)(vs:L_ V):Prop:=h.length=vs.length/\∀(j:Nat) c v,h[j]? = some c->vs[j]? = some v->XC (λk=>k<w.heap.size) w c v
def Cl.nil {w:World}:Cl w [] []:=⟨rfl,λj c v h _=>by simp at h⟩
def Cl.one {w:World}{c:Value}{v:V}(h:XC (λk=>k<w.heap.size) w c v):Cl w [c] [v]:=⟨rfl,λj c' v' D h2=>by
 match j with
 | 0=>simp at D h2;subst D;subst h2;exact h
 | j+1=>simp at D⟩
def Cl.append {w:World}{a b:L_ Value}{u v:L_ V}(h:Cl w a u)(h2:Cl w b v):Cl w (a++b) (u++v):=by
 refine⟨by simp[h.1,h2.1],λj c x hc D=>?_⟩
 by_cases hj:j<a.length
 ·rw[Jx hj]at hc
  rw[Jx (by rw[<-h.1];exact hj)]at D
  exact h.2 j c x hc D
 rw[Wg (by omega)]at hc
 rw[Wg (by rw[<-h.1];omega)]at D
 rw[<-h.1]at D
 exact h2.2 _ c x hc D
def Rd {H α:Type}(enc:TypeId×Value->H)(P:Program)(w:World)(N:Nat)(t:TypeId)(row:α->L_ V)(wf:α->DataW H->Prop):Prop:=
 ∀(fuel:Nat) (h:L_ Value) (d:DataW H) (D:L_ MemPlace),fuel<=N->DataW.trod enc P w 0 (λ_=>true) true fuel t h=some (d,D)->∃x,wf x d/\Cl w h (row x)
def YD {H α:Type}(enc:TypeId×Value->H)(P:Program)(w:World)(N:Nat)(off tot:Nat)(fs:L_ (Nat×Nat))(row:α->L_ V)(D:α->L_ (DataW H)->Prop):Prop:=
 ∀(fuel:Nat) (h:L_ Value) (xs:L_ (DataW H×L_ MemPlace)),fuel<=N->h.length=off+tot->(fs.mapM λf=>DataW.trod enc P w 0 (λ_=>true) true fuel f.1 ((h.drop f.2).take (P.cellsOf f.1)))=some xs->
  ∃x,D x (xs.map Prod.fst)/\Cl w (h.drop off) (row x)
section
variable {H:Type}{enc:TypeId×Value->H}{P:Program}{w:World}{N:Nat}{t:TypeId}
def Rd.mono {α:Type}{M:Nat}{row:α->L_ V}{D:α->DataW H->Prop}(h:Rd enc P w N t row D)(hM:M<=N):Rd enc P w M t row D:=λfuel cs d ps hf e=>h fuel cs d ps (Ym hf hM) e
def Rd.zero {α:Type}{row:α->L_ V}{h:α->DataW H->Prop}:Rd enc P w 0 t row h:=λfuel D d ps hf e=>by
 have:fuel=0:=by omega
 subst this
 simp[DataW.trod]at e
def Rd.map {α β:Type}{row:α->L_ V}{wf:α->DataW H->Prop}{D:β->L_ V}{wf':β->DataW H->Prop}(g:α->β)(h:Rd enc P w N t row wf)(hr:∀x,row x=D (g x))(hw:∀x d,wf x d->wf' (g x) d):Rd enc P w N t D wf':=λfuel cs d ps hf e=>by
 obtain⟨x,h1,h2⟩:=h fuel cs d ps hf e
 exact⟨g x,hw x d h1,by rw[<-hr];exact h2⟩
def Rd.int {k:IntKind}(ht:P.underlying t=some (.int k)):Rd enc P w N t (λn:Int=>[V.i k n]) (λn d=>(Lit.int k n).wf=true/\d=.lit (.int k n)):=by
 intro fuel cs d ps _ e
 cases fuel with
 | zero=>simp[DataW.trod]at e
 | succ fuel=>
  simp only[DataW.trod,ht]at e
  split at e
  all_goals first | (cases e;done) | (rename_i h;cases h;done) | skip
  rename_i h
  cases h
  split at e
  ·rename_i hc
   obtain⟨rfl,D⟩:=hc
   cases e
   exact⟨_,⟨D,rfl⟩,Cl.one (.i _ _)⟩
  cases e
def Rd.bool (D:P.underlying t=some .bool):Rd enc P w N t (λn:Bool=>[V.b n]) (λn d=>d=.lit (.bool n)):=by
 intro fuel cs d ps _ e
 cases fuel with
 | zero=>simp[DataW.trod]at e
 | succ fuel=>
  simp only[DataW.trod,D]at e
  split at e
  all_goals first | (cases e;done) | (rename_i h;cases h;done) | skip
  cases e
  exact⟨_,rfl,Cl.one (.b _)⟩
def Rd.string (ht:P.underlying t=some .string):Rd enc P w N t (λn:ByteArray=>[V.s n]) (λn d=>n.size<=maxLen/\d=.lit (.string n.data.toList)):=by
 intro fuel cs d ps _ e
 cases fuel with
 | zero=>simp[DataW.trod]at e
 | succ fuel=>
  simp only[DataW.trod,ht]at e
  split at e
  all_goals first | (cases e;done) | (rename_i D;cases D;done) | skip
  split at e
  ·rename_i h
   cases e
   exact⟨_,⟨h,rfl⟩,Cl.one (.s _)⟩
  cases e
def QoN {α:Type}{Q:Nat->α->Prop}:∀n:Nat,(∀i,i<n->∃x,Q i x)->∃l:L_ α,l.length=n/\∀i x,l[i]? = some x->Q i x:=by
 intro n
 induction n with
 | zero=>intro _;exact⟨[],rfl,λi x h=>by simp at h⟩
 | succ n ih=>
  intro h
  obtain⟨l,h1,h2⟩:=ih λi hi=>h i (by omega)
  obtain⟨x,hx⟩:=h n (by omega)
  refine⟨l++[x],by simp[h1],λi y D=>?_⟩
  by_cases hi:i<l.length
  ·rw[Jx hi]at D;exact h2 i y D
  have:=(Xa.1 D).1
  simp at this
  have:i=l.length:=by omega
  subst this
  simp at D;subst D;rw[h1];exact hx
def wfL {α:Type}(h:α->DataW H->Prop)(l:L_ α)(d:DataW H):Prop:=l.length<=maxLen/\((d=.nil/\l=[])\/∃es sp,d=.slice es sp/\es.length=l.length/\∀(i:Nat) x e,l[i]? = some x->es[i]? = some e->h x e)
def Rd.slice {α:Type}{e z:Nat}{row:α->L_ V}{wf:α->DataW H->Prop}(ht:P.underlying t=some (.slice e))(hz:P.cellsOf e=z)(hz0:0<z)(hrow:∀x,Bk z (row x))(he:Rd enc P w N e row wf):
  Rd enc P w N t (λl:L_ α=>[V.sl z (l.map row)]) (wfL wf):=by
 subst hz
 intro fuel cs d ps hN h
 cases fuel with
 | zero=>simp[DataW.trod]at h
 | succ fuel=>
  simp only[DataW.trod,ht]at h
  split at h
  all_goals first | (cases h;done) | (rename_i hq;cases hq;done) | skip
  ·cases h;exact⟨[],⟨Nat.zero_le _,.inl ⟨rfl,rfl⟩⟩,Cl.one (.sl0 _ _ _)⟩
  rename_i a len cap hq
  cases hq
  split at h
  ·rename_i hc
   obtain⟨_,hlc,hcm⟩:=hc
   obtain⟨D,hel,h⟩:=NK.1 h
   obtain⟨rest,_,h⟩:=XX.1 h
   have hlen:D.length=len:=by simpa using mapM_some_length hel
   have hat:∀i,i<len->∃y rc,D[i]? = some y/\w.cells? 0 (a.add (i*P.cellsOf e)) (P.cellsOf e)=some rc/\DataW.trod enc P w 0 (λ_=>true) true fuel e rc=some y:=λi hi=>by
    have:=mapM_some_get hel i i (by simp[hi])
    obtain⟨y,hy⟩:∃y,D[i]? = some y:=⟨_,Qx (by omega)⟩
    rw[hy]at this
    obtain⟨rc,h1,h2⟩:=NK.1 this
    exact⟨y,rc,hy,h1,h2⟩
   obtain⟨l,hl,hQ⟩:=QoN (Q:=λi x=>∃y rc,D[i]? = some y/\w.cells? 0 (a.add (i*P.cellsOf e)) (P.cellsOf e)=some rc/\wf x y.1/\Cl w rc (row x)) len λi hi=>by
    obtain⟨y,rc,h1,h2,h3⟩:=hat i hi
    obtain⟨x,h4,h5⟩:=he fuel rc y.1 y.2 (by omega) h3
    exact⟨x,y,rc,h1,h2,h4,h5⟩
   have hd:d=.slice (D.map (·.1)) (rest.map (·.1)):=by cases h;rfl
   refine⟨l,⟨by omega,.inr ⟨_,_,hd,by simp[hl,hlen],λi x e' hx he'=>?_⟩⟩,Cl.one ?_⟩
   ·obtain⟨y,rc,h1,_,h3,_⟩:=hQ i x hx
    rw[XY,h1]at he'
    cases he';exact h3
   by_cases h0:len=0
   ·have:l=[]:=Iz.1 (by omega)
    subst this;subst h0;exact .sl0 _ _ _
   obtain⟨b,off,spot⟩:=a
   obtain⟨y0,rc0,_,h02,_⟩:=hat 0 (by omega)
   have hs:spot=none:=by
    obtain⟨_,h2,h3⟩:=World.cells?_some h02
    have h4:=h3 0 hz0
    obtain⟨c0,hc0⟩:∃c0,rc0[0]? = some c0:=⟨_,Qx (by omega)⟩
    rw[hc0]at h4
    simpa[Addr.add] using World.cell?_spot h4
   subst hs
   have hb:b<w.heap.size:=by
    have hb:=World.cells?_block h02 hz0
    rwa[WideShapes.add_plain]at hb
   have hcell:∀i,i<len->∀rc,w.cells? 0 ((⟨b,off,none⟩:Addr).add (i*P.cellsOf e)) (P.cellsOf e)=some rc->rc.length=P.cellsOf e/\∀j,j<P.cellsOf e->w.cell? ⟨b,off+(i*P.cellsOf e+j),none⟩=rc[j]? := λi hi rc h=>by
    obtain⟨_,h2,h3⟩:=World.cells?_some h
    refine⟨h2,λj hj=>?_⟩
    have:=h3 j hj
    rw[WideShapes.add_plain,WideShapes.add_plain]at this
    rw[<-So];exact this
   refine .sl b off len cap (P.cellsOf e) (l.map row) (λj=>(w.cell? ⟨b,off+j,none⟩).getD undef) hb (by simp[hl]) hlc (λr hr=>by obtain⟨x,_,rfl⟩:=Yh.1 hr;exact hrow x) (λj hj=>?_) (λi r hr j v hv=>?_)
   ·have hij:j / P.cellsOf e<len:=Nat.div_lt_of_lt_mul (by rw[Nat.mul_comm];exact hj)
    obtain⟨y,rc,_,h2,_⟩:=hat (j / P.cellsOf e) hij
    obtain⟨h3,h4⟩:=hcell _ hij rc h2
    have h5:=h4 (j % P.cellsOf e) (Nat.mod_lt _ hz0)
    rw[Nat.mul_comm (j / P.cellsOf e),Nat.div_add_mod]at h5
    rw[h5]
    have:j % P.cellsOf e<rc.length:=by rw[h3];exact Nat.mod_lt _ hz0
    rw[Qx this];rfl
   rw[XY]at hr
   obtain⟨x,hx,rfl⟩:=XX.1 hr
   have hi:i<len:=by rw[<-hl];exact(Xa.1 hx).1
   obtain⟨y,rc,_,h2,_,h3⟩:=hQ i x hx
   obtain⟨h4,h5⟩:=hcell i hi rc h2
   have hj:j<P.cellsOf e:=by rw[<-(hrow x).1];exact(Xa.1 hv).1
   have h6:=h5 j hj
   obtain⟨c,hc⟩:∃c,rc[j]? = some c:=⟨_,Qx (by omega)⟩
   rw[hc]at h6
   show XC _ w ((w.cell? ⟨b,off+(i*P.cellsOf e+j),none⟩).getD undef) v
   rw[h6]
   exact h3.2 j c v hc hv
  cases h
def YD.nil {off:Nat}:YD enc P w N off 0 [] (λ_:Unit=>[]) (λ_ xs=>xs=[]):=λfuel D xs _ hl h=>by
 simp at h
 subst h
 exact⟨(),rfl,by rw[QfB (by omega)];exact Cl.nil⟩
def YD.cons {α β:Type}(t off z:Nat){tot:Nat}{fs:L_ (Nat×Nat)}{D:α->L_ V}{row2:β->L_ V}{wf1:α->DataW H->Prop}{wf2:β->L_ (DataW H)->Prop}(hz:P.cellsOf t=z)
  (h1:Rd enc P w N t D wf1) (h2:YD enc P w N (off+z) tot fs row2 wf2):YD enc P w N off (z+tot) ((t,off)::fs) (λx:α×β=>D x.1++row2 x.2) (λx ds=>∃d r,ds=d::r/\wf1 x.1 d/\wf2 x.2 r):=by
 intro fuel cs xs hN hl h
 subst hz
 rw[List.mapM_cons]at h
 obtain⟨y,hy,h⟩:=NK.1 h
 obtain⟨ys,hys,h⟩:=NK.1 h
 cases h
 obtain⟨x1,a1,a2⟩:=h1 fuel _ y.1 y.2 hN hy
 obtain⟨x2,b1,b2⟩:=h2 fuel cs ys hN (by omega) hys
 refine⟨(x1,x2),⟨y.1,ys.map Prod.fst,rfl,a1,b1⟩,?_⟩
 have:cs.drop off=(cs.drop off).take (P.cellsOf t)++cs.drop (off+P.cellsOf t):=by
  rw[<-List.drop_drop,List.take_append_drop]
 rw[this]
 exact a2.append b2
def Qdz (P:Program)(t:TypeId)(fs:L_ (Nat×Nat))(tot:Nat):Bool:=match P.underlying t with
 | some (.struct gs)=>(gs.toList.map λf=>(f.type,f.offset))==fs&&P.cellsOf t==tot
 | _=>false
def Qew {t tot:Nat}{fs:L_ (Nat×Nat)}(h:Qdz P t fs tot=true):∃gs,P.underlying t=some (.struct gs)/\(gs.toList.map λf=>(f.type,f.offset))=fs/\P.cellsOf t=tot:=by
 unfold Qdz at h
 split at h
 ·rename_i gs D
  rw[QJ,beq_iff_eq,beq_iff_eq]at h
  exact⟨gs,D,h.1,h.2⟩
 cases h
def Rd.struct {α:Type}{fs:L_ (Nat×Nat)}{tot:Nat}{row:α->L_ V}{wf:α->L_ (DataW H)->Prop}(hB:Qdz P t fs tot=true)(hf:YD enc P w N 0 tot fs row wf):
  Rd enc P w (N+1) t row (λx d=>∃ds,d=.agg ds/\wf x ds):=by
 obtain⟨gs,ht,D,hc⟩:=Qew hB
 intro fuel cs d ps hN h
 cases fuel with
 | zero=>simp[DataW.trod]at h
 | succ fuel=>
  simp only[DataW.trod,ht]at h
  split at h
  ·rename_i hl
   obtain⟨xs,hxs,h⟩:=XX.1 h
   cases h
   obtain⟨x,a1,a2⟩:=hf fuel cs xs (by omega) (by rw[hl,hc];omega) (by rw[<-D,List.mapM_map];exact hxs)
   exact⟨x,⟨_,rfl,a1⟩,a2⟩
  cases h
def Qje (P:Program)(t e n tot:Nat)(fs:L_ (Nat×Nat)):Bool:=match P.underlying t with
 | some (.array m e')=>m==n&&e'==e&&P.cellsOf t==tot&&((List.range n).map λi=>(e,i*P.cellsOf e))==fs
 | _=>false
def QkI {t e n tot:Nat}{fs:L_ (Nat×Nat)}(h:Qje P t e n tot fs=true):P.underlying t=some (.array n e)/\P.cellsOf t=tot/\((List.range n).map λi=>(e,i*P.cellsOf e))=fs:=by
 unfold Qje at h
 split at h
 ·rename_i m e' hg
  simp only[QJ,beq_iff_eq]at h
  obtain⟨⟨⟨rfl,rfl⟩,h⟩,D⟩:=h
  exact⟨hg,h,D⟩
 cases h
def Rd.array {α:Type}{e n tot:Nat}{fs:L_ (Nat×Nat)}{row:α->L_ V}{wf:α->L_ (DataW H)->Prop}(hB:Qje P t e n tot fs=true)(hf:YD enc P w N 0 tot fs row wf):
  Rd enc P w (N+1) t row (λx d=>∃ds,d=.agg ds/\wf x ds):=by
 obtain⟨ht,hc,D⟩:=QkI hB
 intro fuel cs d ps hN h
 cases fuel with
 | zero=>simp[DataW.trod]at h
 | succ fuel=>
  simp only[DataW.trod,ht]at h
  split at h
  ·rename_i hl
   obtain⟨xs,hxs,h⟩:=XX.1 h
   cases h
   obtain⟨x,a1,a2⟩:=hf fuel cs xs (by omega) (by rw[hl,hc];omega) (by rw[<-D,List.mapM_map];exact hxs)
   exact⟨x,⟨_,rfl,a1⟩,a2⟩
  cases h
def UO (k:IntKind)(n:Int):Prop:=k.min<=n/\n<=k.max
def okS (s:ByteArray):Prop:=s.size<=maxLen
def BH {α:Type}(ok:α->Prop)(l:L_ α):Prop:=l.length<=maxLen/\∀x∈l,ok x
def QoO {k:IntKind}{n:Int}{d:DataW H}(h:(Lit.int k n).wf=true/\d=.lit (.int k n)):UO k n:=by
 have:=h.1
 simp only[Lit.wf,QJ,QI]at this
 exact this
def LT {α:Type}{ok:α->Prop}{l:L_ α}{d:DataW H}(h:wfL (λx _=>ok x) l d):BH ok l:=by
 refine⟨h.1,λx hx=>?_⟩
 rcases h.2 with⟨_,rfl⟩|⟨es,sp,_,h3,h4⟩
 ·simp at hx
 obtain⟨i,hi⟩:=Ey.1 hx
 have D:i<es.length:=by rw[h3];exact(Xa.1 hi).1
 exact h4 i x _ hi (Qx D)
def Qm2 {w:World}{r:Reach}{base t tot:Nat}{v:Value}{fs:L_ (Nat×Nat)}(h:Qdz P t fs tot=true)(hv:Value.okWide P w r base t v):∃D,v=.agg D:=by
 obtain⟨gs,h1,_⟩:=Qew h
 obtain⟨D,h2,_⟩:=WideShapes.okWide_struct h1 hv
 exact⟨D,h2⟩
def BI {z:Nat}{r:L_ V}(h:(Nat.beq r.length z&&r.all V.one)=true):Bk z r:=by
 rw[QJ,XF]at h
 exact⟨YE h.1,h.2⟩
end
section
variable {H:Type}{enc:TypeId×Value->H}{P:Program}
def QX.law {f:FuncId}{us:L_ V}{args:Array Value}{W:World}(h:QX P f us [] (Gives (.b true) []))(hG:RA P (λk=>k<W.heap.size) W)(hs:args.size=us.length)
  (ha:∀(j:Nat) x v,args[j]? = some x->us[j]? = some v->XC (λk=>k<W.heap.size) W x v):Calls P f args W λe w'=>e=.returned (.bool true)/\Below W.heap.size W w':=by
 refine(h (λk=>k<W.heap.size) (λ_=>none) W args ⟨λk D=>D,λ_ _ _ _ _ h=>(by cases h),λ_ _ h=>(by cases h),hs,λj x v h1 h2=>.dat (ha j x v h1 h2),λ_ _ h=>(by cases h)⟩ hG).mono ?_
 rintro e w' ⟨x,v,hs',φ',rfl,⟨rfl,_⟩,out⟩
 exact⟨by rw[out.rep.b_inv],out.os,out.tape,out.output,out.size,λk D=>out.kept k D λ_ _ h=>by cases h⟩
def QbF (hl:laidOutB P=true){W W':World}(hb:Below W.heap.size W W'):∀{ts:L_ TypeId} {vs:L_ Value} {ds:L_ (DataW H)} {ps:L_ MemPlace},(∀t∈ts,P.readableRec t=true/\t<P.types.size)->
  DataW.TrodAll enc P W 0 (λ_=>true) true ts vs ds ps->(∀x∈ps,x.block<W.heap.size)->DataW.TrodAll enc P W' 0 (λb=>decide (b<W.heap.size)) true ts vs ds ps
 | [],[],[],_,_,h,_=>h
 | t::ts,v::vs,d::ds,_,hr,⟨p,q,h1,h2,e⟩,D=>⟨p,q,Below.trod hl (hr t (XR)).1 (hr t (XR)).2 h1 hb (λx hx=>D x (by rw[e];exact PH _ hx)),
   QbF hl hb (λt ht=>hr t (XZ _ ht)) h2 (λx hx=>D x (by rw[e];exact List.mem_append_right _ hx)),e⟩
def Qm3 {f:Func}{s:ChangeSpec}{D fresh:Bool}{W W':World}{args:Array Value}{ds:L_ (DataW H)}{before:L_ MemPlace}{tb:TypeId}(hl:laidOutB P=true)(hr:∀t∈f.params.toList,P.readableRec t=true/\t<P.types.size)
  (hW:DataW.Whole enc P f.params.toList s.vars D W args.toList ds [] before) (hv:s.vars=[]) (hb:Below W.heap.size W W') (hrt:f.resultTypes=#[tb]) (htb:P.underlying tb=some .bool)
  (hres:(s.fn H (ds++[])).results=[.lit (.bool true)]) (hargs:(s.fn H (ds++[])).args=ds) (hvars:(s.fn H (ds++[])).vars=[]):s.post enc P f D fresh false false W args (.bool true) W':=by
 have hW0:=hW
 obtain⟨p,q,hA,hV,rfl,_,_⟩:=hW
 have hlt:=hW0.lt
 rw[hv]at hV
 have hq:q=[]:=hV
 subst hq
 refine⟨ds,[],_,[],p,[],hW0,?_,?_,?_,?_,λh=>by cases h⟩
 ·rw[hres,hrt]
  exact⟨[],[],shut_bool htb true,rfl,rfl⟩
 ·rw[hargs]
  exact QbF hl hb hr hA λx hx=>hlt x (PH _ hx)
 ·rw[hvars,hv];rfl
 exact World.keptBut_mono (λp hp=>hp.elim) (hb.frame (λ_=>False))
def Cl.arg1 {w:World}{v:Value}{x:V}(D:v.cells.toList=[v])(h:Cl w v.cells.toList [x]):XC (λk=>k<w.heap.size) w v x:=h.2 0 v x (by rw[D];rfl) rfl
def Cl.argS {w:World}{D:Array Value}{vs:L_ V}(h:Cl w (Value.agg D).cells.toList vs):XC (λk=>k<w.heap.size) w (.agg D) (.agg vs):=by
 refine .agg D vs (by simpa[Value.cells] using h.1) λj x v hx hv=>h.2 j x v (by simpa[Value.cells] using hx) hv
def Rd.open {α:Type}{w:World}{t:TypeId}{row:α->L_ V}{D:α->DataW H->Prop}{v:Value}{d:DataW H}{p:L_ MemPlace}(h:∀N,Rd enc P w N t row D)(hd:DataW.Trod enc P w 0 (λ_=>true) true t v d p):∃x,D x d/\Cl w v.cells.toList (row x):=by
 obtain⟨n,hn⟩:=hd
 exact h n n _ _ _ (Jp _) hn
end
section
variable {P:Program}{C:Xx}{Q:Exit->St->Prop}{σ:St}{ks:L_ Fr}{o:Oper}
def QhV {σ':St}{φ φ':Prop}{d f:Nat}{vs us:L_ V}{M N:L_ (Nat×Nat)}{dead:L_ Nat}{ms:L_ Mode}{outs hsC:H_}{r:V}
  (hus:NO (Gr M) ms vs=some us) (hC:FL (Gr M) (look σ.hp) M=some hsC)
  (e:cmV P σ φ d f vs M N dead ms outs r=some (σ',φ')):∃D r',DY σ M N dead outs=true/\(M.map Prod.fst).Nodup/\Vws σ.hp false false (EC M) (λa b=>look M b=some a) vs us/\Lq σ.hp false false (EC M) (λa b=>look M b=some a) σ.hp M hsC/\
   Lq [] false false [] (λc b=>look N b=some c) outs N D/\Vw [] false false [] (λc b=>look N b=some c) r r'/\σ'=(σ.after dead D).put d r':=by
 unfold cmV at e
 replace e:=XL e;obtain⟨e1,e⟩:=e
 simp only[QJ]at e1
 obtain⟨⟨h1,h2⟩,h3⟩:=e1
 have h2:=Du.1 h2
 have h3:=Du.1 h3
 have inj:HN M=true/\HN N=true:=by
  simp only[DY,QJ]at h1
  exact⟨h1.1.1.1,h1.1.1.2⟩
 have mM:∀a b,Gr M a=some b->look M b=some a:=λa b h=>KL inj.1 (FG h) h2
 have mN:∀a b,Gr N a=some b->look N b=some a:=λa b h=>KL inj.2 (FG h) h3
 simp only[hus,hC]at e
 split at e
 ·rename_i D hN
  split at e
  ·rename_i r' hr
   cases e
   exact⟨D,r',h1,h2,LR mM hus,Gw mM hC,Gw mN hN,Nt mN hr,rfl⟩
  cases e
 cases e
def AK.callE {ι:Type}[Inhabited ι]{Φ:ι->Prop}{d f n:Nat}{ops:Array Oper}{rest:L_ Oper}{vs us:L_ V}{hsC:H_}(M N:L_ (Nat×Nat))(dead:L_ Nat)(ms:L_ Mode)(outs:ι->H_)(r:ι->V)(σ':ι->St)
  (hg:o.guard=none) (hCn:Jq P C n) (hE:Je P C o σ f vs) (hd:o.dst=some d) (hn:B_ d C)
  (hus:NO (Gr M) ms vs=some us) (hC:FL (Gr M) (look σ.hp) M=some hsC)
  (hc:QX P f us hsC λv hs=>∃x,Φ x/\Gives (r x) (outs x) v hs)
  (e:∀x,∃φ',cmV P σ True d f vs M N dead ms (outs x) (r x)=some (σ' x,φ'))
  (k:∀x,Φ x->AK P C Q (.o ops rest) ks (σ' x)):AK P C Q (.o ops (o::rest)) ks σ:=by
 intro a w ⟨φ,hr⟩
 simp only[wpListIn,Region.wanted,hg,if_true]
 refine⟨λ_ _=>trivial,?_⟩
 obtain⟨vals,hex,h1,h2⟩:=hE φ a w hr
 rw[Qdt hex,Oper.uponIn_enter]
 obtain⟨_,e0⟩:=e default
 obtain⟨_,_,n1,n2,hv,D,_,_,_⟩:=QhV hus hC e0
 have hN0:=Names.of n1 n2
 refine⟨(λh=>by cases h),Qci ((hc _ _ w _ (Ins.of_vals hr h1 h2 hN0.injM hN0.param hv D) ((hr.glob hCn.g).mono λ_ h=>.inl h)).mono ?_)⟩
 rintro e' w' ⟨x,v,hs',φ',rfl,⟨i,hΦ,rfl,hso⟩,hout⟩
 obtain⟨_,ei⟩:=e i
 obtain⟨hsN,r',n1,n2,_,_,hback,hr',hσ⟩:=QhV hus hC ei
 have hN:=Names.of n1 n2
 obtain⟨h3,h4⟩:=hr.after hN hout hso (λc s h=>by
  obtain⟨ob',e1⟩:=D.get.2 c s h
  obtain⟨s',ob,e2,e3,_⟩:=D.get.1 c ob' e1
  rw[h]at e2;cases e2;exact⟨ob,e3⟩) hback
 refine k i hΦ _ _ ⟨Lr φ M N dead φ',?_⟩
 rw[hd,hσ]
 exact h3.put (XB hn) (h4 hr')
def QhW {σ':St}{φ':Prop}{f:Nat}{vs us:L_ V}{M N:L_ (Nat×Nat)}{dead:L_ Nat}{ms:L_ Mode}{outs hsC:H_}{r:V}
  (hus:NO (Gr M) ms vs=some us) (hC:FL (Gr M) (look σ.hp) M=some hsC)
  (e:rgV P σ f vs M N dead ms outs r=some (σ',φ')):∃D,DY σ M N dead outs=true/\(M.map Prod.fst).Nodup/\Vws σ.hp false false (EC M) (λa b=>look M b=some a) vs us/\Lq σ.hp false false (EC M) (λa b=>look M b=some a) σ.hp M hsC/\
   Lq [] false false [] (λc b=>look N b=some c) outs N D/\σ'=σ.after dead D:=by
 unfold rgV at e
 replace e:=XL e;obtain⟨e1,e⟩:=e
 simp only[QJ]at e1
 obtain⟨⟨h1,h2⟩,h3⟩:=e1
 have h2:=Du.1 h2
 have h3:=Du.1 h3
 have inj:HN M=true/\HN N=true:=by
  simp only[DY,QJ]at h1
  exact⟨h1.1.1.1,h1.1.1.2⟩
 have mM:∀a b,Gr M a=some b->look M b=some a:=λa b h=>KL inj.1 (FG h) h2
 have mN:∀a b,Gr N a=some b->look N b=some a:=λa b h=>KL inj.2 (FG h) h3
 simp only[hus,hC]at e
 split at e
 ·rename_i D hN
  cases e
  exact⟨D,h1,h2,LR mM hus,Gw mM hC,Gw mN hN,rfl⟩
 cases e
def AK.rangeFE {ι:Type}[Inhabited ι]{Φ:ι->Prop}{g:Operand}{ps:Array Tmp}{assign body:Code}{f n:Nat}{fs cps:L_ V}(b:Nat)(ts:L_ Nat)(M N:L_ (Nat×Nat))(dead:L_ Nat)(ms:L_ Mode)(K:Nat->Bl)(hCn:Jq P C n)(hrnd:C.rnd=none)(hK:∀fn,K fn=⟨fn,ps,assign,body⟩)
  (hg:σ.opd g=some (.clo (.func f) fs cps)) (he:Zr P f=true) (hb:look σ.hp b=none) (hb2:Nat.ble 618 b=false)
  (H:∀l fn,∃(outs:ι->H_) (r:ι->V) (σ2:ι->St) (us:L_ V) (hsC:H_),NO (Gr M) ms (fs++(.clo (.yield l) [] []::cps))=some us/\FL (Gr M) (look (σ.set b (.lp l (K fn) (snap ts σ.fr n) 0)).hp) M=some hsC/\
   QX P f us hsC (λv hs=>∃x,Φ x/\Gives (r x) (outs x) v hs)/\∀x,∃φ2 cs2 q,rgV P (σ.set b (.lp l (K fn) (snap ts σ.fr n) 0)) f (fs++(.clo (.yield l) [] []::cps)) M N dead ms (outs x) (r x)=some (σ2 x,φ2)/\look (σ2 x).hp b=some (.lp l (K fn) cs2 q)/\q≠1/\
   (Φ x->atJ (AK P C Q (.x .normal) ks ((σ2 x).kill b)) (λc=>AK P C Q (.c c) ks ((σ2 x).kill b)) (ZT q))):AK P C Q (.c (.rangeFunc g ps assign body)) ks σ:=by
 obtain rfl:K=λfn=>⟨fn,ps,assign,body⟩:=funext hK
 have hpg:=hCn.g
 replace hCn:=hCn.n
 subst hCn
 intro a w ⟨φ,hr⟩
 refine wpIn_rangeFunc λfn _=>?_
 obtain⟨outs,r,σ2,us,hsC,hus,hC,hcall,hx⟩:=H (w.heap.size+1) fn
 obtain⟨xs,ys,hev,e1,e2,e3,e4⟩:=(hr.opd hg).clo_inv
 have hb3:b<618:=UZ (by rw[hb2];rfl)
 refine⟨w.heap.size+1,[{ target:=.collected w.heap.size,args:=#[] }],(w.alloc (.deferred (some []))).alloc (.loop { state:=.ready,pending:=none,fn,tmps:=a.tmps,params:=ps,assign,body,defers:=w.heap.size }),{ target:=.fn (.func f) ys,args:=xs++#[.func (.yield (w.heap.size+1)) #[] #[]] },(w.alloc (.deferred (some []))).alloc (.loop { state:=.ready,pending:=none,fn,tmps:=a.tmps,params:=ps,assign,body,defers:=w.heap.size }),f,(xs++#[.func (.yield (w.heap.size+1)) #[] #[]])++ys,(w.alloc (.deferred (some []))).alloc (.loop { state:=.ready,pending:=none,fn,tmps:=a.tmps,params:=ps,assign,body,defers:=w.heap.size }),?_,?_,λ_ _=>trivial,?_,(λh=>by cases h),?_⟩
 ·rw[show C.F.round=none from hrnd];exact run_enterLoop_outer _ _ _ _ _
 ·have hy:a.eval (.const (.func (.yield (w.heap.size+1)) #[] #[]))=.func (.yield (w.heap.size+1)) #[] #[]:=rfl
  simp only[resolve,hev,Deferred.ofValue,Xy,List.map_toArray,Gt,List.map_nil,hy]
 ·exact HK he
 have hm:=hr.mark
 have hN0:=hm.none_of_look hb
 have hsz:(w.alloc (.deferred (some []))).heap.size=w.heap.size+1:=by simp
 have hR1:=hm.alloc (cap:=0) (z:=0) hb hb3 (ob:=.lp (w.heap.size+1) ⟨fn,ps,assign,body⟩ (snap ts σ.fr C.n) 0)
  (obj:=.loop { state:=.ready,pending:=none,fn,tmps:=a.tmps,params:=ps,assign,body,defers:=w.heap.size })
  ⟨a.tmps,w.heap.size,hsz,rfl,by rw[<-hsz];exact World.alloc_heap_new _ _,by rw[hr.tmps];simp[Vm.snap],λj x v hx hv=>(hm.snap j x v hx hv).mono (hm.mono_ext _ hN0) (hm.imm_alloc b 0 0 _ hN0)⟩
 rw[hsz]at hR1
 generalize hσ1:σ.set b (.lp (w.heap.size+1) ⟨fn,ps,assign,body⟩ (snap ts σ.fr C.n) 0)=σ1 at hR1 hx hC
 generalize hw1:(w.alloc (.deferred (some []))).alloc (.loop { state:=.ready,pending:=none,fn,tmps:=a.tmps,params:=ps,assign,body,defers:=w.heap.size })=w1 at hR1 ⊢
 have hval:(xs++#[.func (.yield (w.heap.size+1)) #[] #[]])++ys=(xs.toList++(.func (.yield (w.heap.size+1)) #[] #[]::ys.toList)).toArray:=by apply Array.ext';simp
 rw[hval]
 obtain⟨_,_,_,ed,_⟩:=hx default
 obtain⟨_,n1,n2,hv,hobs,_,_⟩:=QhW hus hC ed
 have hNm:=Names.of n1 n2
 have hfr1:σ1.fr=σ.fr:=by rw[<-hσ1];rfl
 refine Qci ((hcall _ _ w1 _ (Ins.of_vals (g:=false) (vs:=fs++(.clo (.yield (w.heap.size+1)) [] []::cps)) hR1 (by simp[e1,e2]) (λj x v hx hv=>?_) hNm.injM hNm.param hv hobs) ((hR1.glob hpg).mono λ_ h=>.inl h)).mono ?_)
 ·have up:=λ{x:Value} {v:V} (h:QO φ (QZ C φ w) w x v)=>(h.mono (φ':=φ) (I':=QZ C φ (w.alloc (.deferred (some [])))) (w':=w.alloc (.deferred (some []))) (λ_ _ h=>h) λk hk=>⟨⟨by have:=hk.1;simp;omega,hk.2⟩,Below.heap_alloc w _ k hk.1⟩).mono (hm.mono_ext ⟨w.heap.size+1,0,0,[],0⟩ hN0) (by
   have:=hm.imm_alloc b 0 0 (.loop { state:=.ready,pending:=none,fn,tmps:=a.tmps,params:=ps,assign,body,defers:=w.heap.size }) hN0
   rw[hsz,hw1]at this;exact this)
  by_cases c1:j<fs.length
  ·rw[Jx (by simpa using (by omega:j<xs.size))]at hx
   rw[Jx c1]at hv
   exact up (e3 j x v (by simpa using hx) hv)
  rw[Wg (by simp;omega)]at hx
  rw[Wg (by omega)]at hv
  simp only[Array.length_toList]at hx
  rw[e1]at hx
  generalize j-fs.length=i at hx hv
  cases i with
  | zero=>
   simp at hx hv;subst hx;subst hv
   exact .clo (.yield _) #[] #[] [] [] rfl rfl (λj x v h=>by simp at h) (λj x v h=>by simp at h)
  | succ i=>simp only[Qdr]at hx hv;exact up (e4 i x v (by simpa using hx) hv)
 rintro e w' ⟨x,v,hs',φ',rfl,⟨i,hΦ,rfl,hso⟩,hout⟩
 obtain⟨_,cs2,q,ei,hq,hq1,hk⟩:=hx i
 replace hk:=hk hΦ
 obtain⟨hsN,n1,n2,_,_,hback,hσ2⟩:=QhW hus hC ei
 have hNm:=Names.of n1 n2
 obtain⟨k3,_⟩:=hR1.after hNm hout hso (λc s h=>by
  obtain⟨ob',e1⟩:=hobs.get.2 c s h
  obtain⟨s',ob,e2,e3,_⟩:=hobs.get.1 c ob' e1
  rw[h]at e2;cases e2;exact⟨ob,e3⟩) hback
 rw[<-hσ2]at k3
 obtain⟨B,hB,tmps,D,f1,f2,f3,f4,f5⟩:=k3.lp hq
 have hst:lst q≠.busy:=by
  match q,hq1 with
  | 0,_=>exact(by intro h;cases h)
  | 1,h=>exact absurd rfl h
  | k+2,_=>exact(by intro h;cases h)
 refine⟨_,_,run_endLoop f3 hst,?_⟩
 have hkill:=k3.killTo hB (w':=w'.putObj (w.heap.size+1) (.loop { state:=.exhausted,pending:=ZT q,fn,tmps,params:=ps,assign,body,defers:=D })) rfl rfl rfl World.putObj_size (λk hk=>World.putObj_heap_other (by rw[<-f1];exact hk))
 simp only
 cases hj:ZT q with
 | none=>rw[hj]at hk hkill;exact hk _ _ ⟨_,hkill⟩
 | some c=>rw[hj]at hk hkill;exact hk _ _ ⟨_,hkill⟩
def AK.rangeF {Q:Exit->St->Prop}{ks:L_ Fr}{g:Operand}{ps:Array Tmp}{assign body:Code}{f n:Nat}{fs cps:L_ V}(b:Nat)(ts:L_ Nat)(M N:L_ (Nat×Nat))(dead:L_ Nat)(ms:L_ Mode)(K:Nat->Bl)(hCn:Jq P C n)(hrnd:C.rnd=none)(hK:∀fn,K fn=⟨fn,ps,assign,body⟩)
  (hg:σ.opd g=some (.clo (.func f) fs cps)) (he:Zr P f=true) (hb:look σ.hp b=none) (hb2:Nat.ble 618 b=false)
  (H:∀l fn,∃outs r σ2 φ2 D q,rgV P (σ.set b (.lp l (K fn) (snap ts σ.fr n) 0)) f (fs++(.clo (.yield l) [] []::cps)) M N dead ms outs r=some (σ2,φ2)/\φ2/\look σ2.hp b=some (.lp l (K fn) D q)/\q≠1/\
   atJ (AK P C Q (.x .normal) ks (σ2.kill b)) (λc=>AK P C Q (.c c) ks (σ2.kill b)) (ZT q)):AK P C Q (.c (.rangeFunc g ps assign body)) ks σ:=by
 refine AK.rangeFE (ι:=Unit) (Φ:=λ_=>True) b ts M N dead ms K hCn hrnd hK hg he hb hb2 λl fn=>?_
 obtain⟨outs,r,σ2,φ2,D,q,e,hφ2,hq,hq1,hk⟩:=H l fn
 have e':=e
 unfold rgV at e
 replace e:=XL e;obtain⟨_,e⟩:=e
 split at e
 ·rename_i us hus
  split at e
  ·rename_i hsC hC
   split at e
   ·cases e
    exact⟨λ_=>outs,λ_=>r,λ_=>_,us,hsC,hus,hC,hφ2.mono (λv hs h=>⟨(),trivial,h⟩),λ_=>⟨_,D,q,e',hq,hq1,λ_=>hk⟩⟩
   cases e
  cases e
 cases e
end
def QkJ (n:Nat)(p:Int×Int):O_ (Nat⊕Empty):=some (.inl (n+1))
def QeI : ∀(l:L_ (Int×Int)) (n:Nat),Jv QkJ n l=some (.inl (n+l.length)):=by
 intro l
 induction l with
 | nil=>intro n;rfl
 | cons p l h=>intro n;simp only[Jv,QkJ,Qd,Sum.elim_inl];rw[h];simp[Nat.add_comm,Nat.add_left_comm]
def QlN (l:L_ (Int×Int))(n:Nat):Fk QkJ n l=some (.inl (n+l.length)):=CD.2 ⟨λD h=>by rw[QeI,QeI,h.length_eq],QeI l n⟩
def QkK {l m:L_ Int}(h:l.Perm m):JG l=JG m:=by
 rw[Qbb,Qbb]
 refine List.Perm.eq_of_pairwise (le:=λx y:Int=>x<=y) ?_ ?_ ?_ ?_
 ·intro a b _ _ D h2;omega
 ·exact(List.pairwise_mergeSort (le:=λx y:Int=>decide (x<=y)) (λa b c D h2=>by simp at *;omega) (λa b=>by simp;omega) l).imp λh=>by simpa using h
 ·exact(List.pairwise_mergeSort (le:=λx y:Int=>decide (x<=y)) (λa b c D h2=>by simp at *;omega) (λa b=>by simp;omega) m).imp λh=>by simpa using h
 exact((List.mergeSort_perm l _).trans h).trans (List.mergeSort_perm m _).symm
def spZ : L_ Int:=(List.range 256).map λc=>if Lib.isSp (UInt8.ofNat c)then 1 else 0
def QjR {P:Program}{W:World}(h:Lib.TabIs P W "strings.asciiSpace" .u8 spZ):RA P (fun k=>k<W.heap.size) W:=fun g hg=>by
 have hc:∀c:Nat,c<256->W.cell? ⟨g,c,none⟩=some (.int .u8 (if Lib.isSp (UInt8.ofNat c)then 1 else 0)):=λc hc=>by
  rw[h.cell hg c (by simp only[spZ,Gs,Sk];exact hc)]
  simp[spZ,List.getD,hc]
 have h0:g<W.heap.size:=by
  have:=hc 0 (by decide)
  apply Nat.lt_of_not_le
  intro hle
  have e:W.heap[g]? = none:=Array.getElem?_eq_none hle
  simp[World.cell?,e]at this
 exact⟨h0,h0,hc⟩
def Qjf {P:Program}{W:World}{l r:L_ (String×DataW Unit)}{g:Nat}{t e:TypeId}(n:Nat)(hl:l.drop n=("strings.asciiSpace",Lib.tabData .u8 spZ)::r)(hp:(l.all fun x=>x.2.handleName?.isNone)=true)
  (hg:P.globalNamed "strings.asciiSpace" = some g) (hty:(P.globals[g]?).map (·.type)=some t) (ht:P.underlying t=some (.array 256 e)) (he:P.underlying e=some (.int .u8)) (hce:P.cellsOf e=1) (hct:P.cellsOf t=256)
  (h:laidMetH P l W):RA P (λk=>k<W.heap.size) W:=by
 rw[MakeChecks.laidMetH_plain _ _ _ hp]at h
 have key:∀(n:Nat) (l:L_ (String×DataW Unit)),laidMet P l W->laidMet P (l.drop n) W:=by
  intro n
  induction n with
  | zero=>intro l h;exact h
  | succ n ih=>
   intro l h
   cases l with
   | nil=>exact h
   | cons x l=>exact ih l h.tail
 have h2:=key n l h
 rw[hl]at h2
 exact QjR (Lib.tabIs_of_head hg hty ht he hce hct h2)
variable {H:Type}{P:Program}
def Sz (P:Program)(t:Nat)(d:DataW H):Prop:=∀n∈d.weights P t,n<=reachBytes
def Sz.all {ts:L_ TypeId}{D:L_ (DataW H)}(h:(DataW.weightsEach P ts D).all (·<=reachBytes)=true){j:Nat}{t:Nat}{d:DataW H}(ht:ts[j]? = some t)(hd:D[j]? = some d):Sz P t d:=λn hn=>by
 have:=XF.1 h n (DataW.weights_mem_each ht hd n hn)
 simpa using this
def Sz.field {t:Nat}{fs:Array Field}(hu:P.underlying t=some (.struct fs)){D:L_ (DataW H)}(h:Sz P t (.agg D)){j:Nat}{u:Nat}{d:DataW H}(ht:(fs.toList.map (·.type))[j]? = some u)(hd:D[j]? = some d):Sz P u d:=λn hn=>h n (by
 simp only[DataW.weights,hu]
 exact DataW.weights_mem_each ht hd n hn)
def Qj0 {e:Nat}{d:DataW H}{n:Nat}(hn:n∈d.weights P e):∀{D:L_ (DataW H)},d∈D->n∈DataW.weightsAll P e D
 | [],h=>by cases h
 | x::D,h=>by
  simp only[DataW.weightsAll,YI]
  rcases Yl.1 h with rfl | h
  ·exact .inl hn
  exact .inr (Qj0 hn h)
def szL {α:Type}{t e:Nat}{ok sz:α->Prop}{l:L_ α}{d:DataW H}(hu:P.underlying t=some (.slice e))(h:wfL (λx d=>ok x/\(Sz P e d->sz x)) l d):BH ok l/\(Sz P t d->l.length*P.bytesOf e<=reachBytes/\∀x∈l,sz x):=by
 obtain⟨h1,⟨rfl,rfl⟩|⟨es,sp,rfl,hl,hw⟩⟩:=h
 ·exact⟨⟨h1,λx h=>by cases h⟩,λ_=>⟨by simp,λx h=>by cases h⟩⟩
 have key:∀x∈l,∃d∈es,ok x/\(Sz P e d->sz x):=λx hx=>by
  obtain⟨i,hi,rfl⟩:=Hb.1 hx
  have D:i<es.length:=by omega
  exact⟨es[i],XV D,hw i _ _ (Qx hi) (Qx D)⟩
 refine⟨⟨h1,λx hx=>by obtain⟨_,_,h,_⟩:=key x hx;exact h⟩,λhs=>⟨?_,λx hx=>?_⟩⟩
 ·have:=hs ((es.length+sp.length)*P.bytesOf e) (by simp only[DataW.weights,hu];exact XR)
  rw[<-hl]
  exact Ym (YZ _ (Nat.le_add_right _ _)) this
 obtain⟨d,hd,_,h⟩:=key x hx
 refine h λn hn=>hs n ?_
 simp only[DataW.weights,hu]
 exact XZ _ (PH _ (Qj0 hn hd))
def QoP {α:Type}{t e b:Nat}{ok:α->Prop}{l:L_ α}{d:DataW H}(hu:P.underlying t=some (.slice e))(hb:P.bytesOf e=b)(h:wfL (λx _=>ok x) l d):BH ok l/\(Sz P t d->l.length*b<=reachBytes):=by
 subst hb
 have:=szL (P:=P) (t:=t) (e:=e) (sz:=λ_=>True) hu (show wfL (λx d=>ok x/\(Sz P e d->True)) l d from⟨h.1,h.2.imp id λ⟨es,sp,D,h2,h3⟩=>⟨es,sp,D,h2,λi x e a b=>⟨h3 i x e a b,λ_=>trivial⟩⟩⟩)
 exact⟨this.1,λhs=>(this.2 hs).1⟩
section
variable {κ α:Type}[DecidableEq κ]
def QfU {π:Type}{L:L_ (Nat×π)}{h:Array Nat}{y:Nat}:YN L (h.push y)=(YN L h).filter λq=>!(q.1==y):=by
 unfold YN
 rw[List.filter_filter]
 apply List.filter_congr
 intro q _
 rw[QaI]
 simp[Array.mem_push]
 constructor
 ·rintro ⟨D,h2⟩;exact⟨h2,D⟩
 rintro ⟨D,h2⟩;exact⟨h2,D⟩
structure Qbc (L L':List (Nat×(κ×α))) (seen:Array Nat):Prop where
 keys:L'.map (·.2.1)=L.map (·.2.1)
 left:YN L' seen=YN L seen
def Qbc.refl {L:L_ (Nat×(κ×α))}{h:Array Nat}:Qbc L L h:=⟨rfl,rfl⟩
def Qbc.push {L L':L_ (Nat×(κ×α))}{D:Array Nat}(h:Qbc L L' D)(y:Nat):Qbc L L' (D.push y):=⟨h.keys,by rw[QfU,QfU,h.left]⟩
def Qbc.nil {L L':L_ (Nat×(κ×α))}{D:Array Nat}(h:Qbc L L' D)(hq:YN L' D=[]):YN L D=[]:=by rw[<-h.left];exact hq
end
section
variable {P:Program}{C:Xx}{σ:St}{o:Oper}{κ α:Type}[DecidableEq κ]
end
def AK.know {P:Program}{C:Xx}{Q:Exit->St->Prop}{σ:St}{ks:L_ Fr}{pt:Pt}{p:Prop}(h:∀a w,R C σ a w->p)(k:p->AK P C Q pt ks σ):AK P C Q pt ks σ:=
 AK.weakenE (ι:=PLift p) (f:=λ_=>σ) (λa w D=>⟨⟨h a w D⟩,D⟩) λi=>k i.down
def AK.openMapK {P:Program}{C:Xx}{Q:Exit->St->Prop}{σ:St}{ks:L_ Fr}{κ α:Type}[DecidableEq κ]{K:TypeId}{e:κ->V}{val:κ->Value}{f:α->V}{lt:L_ (κ×α)}{b:Nat}{pt:Pt}(hk:WK P K e val)(hb:look σ.hp b=some (.map (QC e f lt)))
  (h:∀bm D (L:L_ (Nat×(κ×α))),(L.map (·.1)).Nodup->(L.map (·.2.1)).Nodup->(L.map Prod.snd).Perm lt->AK P C Q pt ks (σ.set b (.mapX bm D (FN e f L) (QC e f lt)))):AK P C Q pt ks σ:=by
 refine AK.openMap hk hb λbm D L h1 h2=>AK.know (p:=(lt.map Prod.fst).Nodup) (λa w ⟨φ,hr⟩=>?_) λhn=>h bm D L h1 ?_ h2
 ·rcases hr.heap b _ (St.look_set_same _ _ _)with⟨B,hB,_,M,_,_,_,g3,_⟩|⟨_,e'⟩
  ·exact(NM hk.einj).1 g3
  exact e'.elim
 have:=(h2.map Prod.fst).nodup_iff.2 hn
 rw[Sl]at this
 exact this
section
variable {P:Program}{C:Xx}{σ:St}{o:Oper}{A:Nat->Nat}
def RR.grow {φ:Nat->O_ QS}{a:Act}{w:World}(hr:RR C φ σ a w){b z T:Nat}{rs:L_ (L_ V)}{cs:L_ V}{ys:Array Value}(hb:look σ.hp b=some (.tbl A z rs))(hlt:b<618)(hz:cs.length=z)(h1:∀v∈cs,v.one=true)
  (hs:ys.size=z) (hc:∀(j:Nat) x v,ys[j]? = some x->cs[j]? = some v->XC (QZ C φ w) w x v):
  ∃φ',RR C φ' ((σ.kill b).set b (.tbl (λi=>if i=rs.length then w.heap.size else A i) z (rs++[cs]))) a (w.alloc (.cells ys T)):=by
 generalize hA':(λi=>if i=rs.length then w.heap.size else A i)=A'
 have hnew:A' rs.length=w.heap.size:=by rw[<-hA'];simp
 have hold:∀i,i<rs.length->A' i=A i:=λi hi=>by rw[<-hA'];simp[Nat.ne_of_lt hi]
 have hrng:(List.range (rs++[cs]).length).map A'=(List.range rs.length).map A++[w.heap.size]:=by
  rw[Kc,DU,NG,List.range_succ,List.map_append,Gt,List.map_nil,hnew]
  congr 1
  exact List.map_congr_left λi hi=>hold i (Gu.1 hi)
 have hok:(∀r∈rs,Bk z r)->∀r∈rs++[cs],Bk z r:=λh r hr=>by
  rcases YI.1 hr with hr | hr
  ·exact h r hr
  rw[Ao.1 hr];exact⟨hz,h1⟩
 have row:∀{I:Nat->Prop},(∀k,QZ C φ w k->I k)->∃cs2 E,(w.alloc (.cells ys T)).heap[w.heap.size]? = some (.cells cs2 E (0,0))/\cs2.size=z/\∀(j:Nat) v,cs[j]? = some v->∃x,cs2[j]? = some x/\XC I (w.alloc (.cells ys T)) x v:=λ{I} hI=>by
  refine⟨ys,T,heap_alloc_new w _,hs,λj v hv=>?_⟩
  have hj:j<ys.size:=by rw[hs,<-hz];exact(Xa.1 hv).1
  exact⟨ys[j],GG hj,(hc j _ v (GG hj) hv).mono λk D=>⟨hI k D,Below.heap_alloc w _ k D.1⟩⟩
 rcases hr.heap b _ hb with⟨B,hB,hrep⟩|⟨hn,h⟩
 ·let B':QS:=⟨B.b,B.cap,B.z,B.more++[w.heap.size],B.off⟩
  have hhas:∀k,B'.has k↔B.has k\/k=w.heap.size:=λk=>by simp[QS.has,B',or_assoc]
  have hI0:∀k,QZ C φ w k->QZ C (ext φ b B') (w.alloc (.cells ys T)) k:=λk D=>⟨by have:=D.1;simp;omega,D.2.1,λo B1 h1=>by
   by_cases e:o=b
   ·subst e;rw[Xb]at h1;cases h1
    rw[hhas];rintro (h2 | h2)
    ·exact D.2.2 _ B hB h2
    have:=D.1;omega
   rw[QM _ e]at h1;exact D.2.2 o B1 h1⟩
  have:=hr.change hB (B':=B') ⟨rfl,rfl,rfl,rfl⟩ (λh=>absurd hlt (by omega)) (ob:=.tbl A' z (rs++[cs])) (w':=w.alloc (.cells ys T)) rfl rfl rfl (by simp) (λk D _=>Below.heap_alloc w _ k D)
   (λk D=>by
    rcases(hhas k).1 D with h2 | h2
    ·exact⟨by have:=(hr.lt b B k hB h2).1;simp;omega,.inl h2⟩
    ·exact⟨by simp;omega,.inr (by omega)⟩) (by
    refine⟨by rw[hrng,<-hrep.1];rfl,?_,hok hrep.2.2.1,λi q hi=>?_⟩
    ·show((B.b::B.more)++[w.heap.size]).Nodup
     rw[List.nodup_append]
     refine⟨hrep.2.1,by simp,λx hx y hy=>?_⟩
     rw[Ao.1 hy]
     have:=(hr.lt b B x hB (by unfold QS.has;exact Yl.1 hx)).1
     omega
    rcases Df i rs.length with hlt' | hge
    ·rw[Jx hlt']at hi
     obtain⟨cs2,E,g1,g2,g3⟩:=hrep.2.2.2 i q hi
     have hAi:A i<w.heap.size:=(hr.lt b B _ hB ((hrep.has _).2 ⟨i,hlt',rfl⟩)).1
     exact⟨cs2,E,by rw[hold i hlt',Below.heap_alloc w _ _ hAi];exact g1,g2,λj u hu=>let ⟨x',hx',hD⟩:=g3 j u hu;⟨x',hx',hD.mono λk D=>⟨hI0 k D,Below.heap_alloc w _ k D.1⟩⟩⟩
    have hi0:i=rs.length:=by have:=(Xa.1 hi).1;simp at this;omega
    subst hi0
    rw[Wg (Jp _),Nat.sub_self]at hi
    simp at hi;subst hi
    rw[hnew];exact row hI0)
  have h2:=this.reset b (.tbl A' z (rs++[cs])) ⟨_,St.look_set_same _ _ _⟩ (.inl ⟨B',Xb _ _ _,this.block (Xb _ _ _) (St.look_set_same _ _ _)⟩)
  rw[St.set_kill]at h2
  exact⟨_,h2⟩
 replace h:rs=[]:=h
 subst h
 have D:=hr.kill b
 have hnone:look (σ.kill b).hp b=none:=by
  cases h:look (σ.kill b).hp b with
  | none=>rfl
  | some ob=>exact absurd rfl (YX _ _ _ h).1
 have hdel:WW φ b=φ:=by
  funext k
  by_cases e:k=b
  ·subst e;rw[OW,hn]
  rw[KK e]
 have hI1:=D.imm_alloc b 0 0 (.cells ys T) (OW _ _)
 refine⟨_,D.alloc (cap:=0) (z:=0) hnone hlt (ob:=.tbl A' z ([]++[cs])) (obj:=.cells ys T) ⟨?_,by simp,hok (by simp),λi q hi=>?_⟩⟩
 ·rw[hrng];rfl
 have hi0:i=0:=by have:=(Xa.1 hi).1;simp at this;omega
 subst hi0
 simp at hi;subst hi
 have:A' 0=w.heap.size:=hnew
 rw[this]
 exact row λk hk'=>(hI1 k (by rw[hdel];exact hk')).1
end
end Go.Vm
namespace Go.Vm
open Go Go.RowKit Go.Shelf Go.Lib Go.Proofs
noncomputable def Qp7 (ρ:Ren)(h:String):Func:={ Body2.n22 ρ with name:=h }
noncomputable def ovF (ρ:Ren)(h:String):Func:={ Body2.n29 ρ with name:=h }
structure Qqg (P:Program) (ρ:Ren) (n1 n2:String) (E z by_:Nat) (zv:Value):Prop where
 mixed:P.follows .mixedOrders=true
 f22:P.funcs[ρ.f 22]? = some (Qp7 ρ n1)
 f29:P.funcs[ρ.f 29]? = some (ovF ρ n2)
 nm:(n2 == "runtime.NumGoroutine")=false
 nx:Extern.findNext (ovF ρ n2)=none
 fd:Extern.find (ovF ρ n2)=some (Extern.SlicesOverlaps.overlaps #[(ρ.t 24),(ρ.t 24)] #[(ρ.t 4)])
 t0:P.underlying (ρ.t 0)=some (TypeDesc.tuple #[])
 t3:P.underlying (ρ.t 3)=some (TypeDesc.int IntKind.i64)
 t4:P.underlying (ρ.t 4)=some (TypeDesc.bool)
 t24:P.underlying (ρ.t 24)=some (TypeDesc.slice E)
 zE:∀w,(Go.sizeOf E).run P w=.ok z w
 iE:(P.info? E).map (λi=>(i.zero,i.size,i.bytes))=some (some zv,z,by_)
 zc:zv.cells.size=z
 z0:0<z
 small:by_<=32768
variable {P:Program}{ρ:Ren}{n1 n2:String}{E z by_:Nat}{zv:Value}
def BJ (I:Nat->Prop)(w:World)(z:Nat)(l:L_ Value)(rs:L_ (L_ V)):Prop:=l.length=rs.length*z/\(∀r∈rs,Bk z r)/\(∀u∈l,u.oneCell'=true)/\∀(i:Nat) r,rs[i]? = some r->∀(j:Nat) v,r[j]? = some v->∃u,l[i*z+j]? = some u/\XC I w u v
def BJ.append {I:Nat->Prop}{w:World}{l m:L_ Value}{rs us:L_ (L_ V)}(h:BJ I w z l rs)(k:BJ I w z m us):BJ I w z (l++m) (rs++us):=by
 obtain⟨D,h2,h3,h4⟩:=h
 obtain⟨k1,k2,k3,k4⟩:=k
 obtain⟨g1,g2⟩:=PK (rest:=[]) (n:=rs.length) rfl D h2 k2 k1 h4 k4
 refine⟨by rw[Kc,Kc,D,k1,Ww],g1,λu hu=>(YI.1 hu).elim (h3 u) (k3 u),by simpa using g2⟩
def BJ.take {I:Nat->Prop}{w:World}{l:L_ Value}{rs:L_ (L_ V)}(h:BJ I w z l rs){i:Nat}(hi:i<=rs.length):BJ I w z (l.take (i*z)) (rs.take i):=by
 obtain⟨h1,h2,h3,h4⟩:=h
 have hle:i*z<=rs.length*z:=YZ z hi
 refine⟨by rw[WJ,WJ,h1,Fe hle,Fe hi],λr hr=>h2 r (Bj hr),λu hu=>h3 u (Bj hu),λk r D j v hj=>?_⟩
 rw[KD]at D
 split at D
 ·rename_i hki
  obtain⟨u,hu,hD⟩:=h4 k r D j v hj
  have hjz:j<z:=by have:=(Xa.1 hj).1;rwa[(h2 r (XE D)).1]at this
  have:(k+1)*z<=i*z:=YZ z hki
  rw[Ww]at this
  exact⟨u,by rw[KD,if_pos (by omega)];exact hu,hD⟩
 cases D
def BJ.drop {I:Nat->Prop}{w:World}{l:L_ Value}{rs:L_ (L_ V)}(h:BJ I w z l rs){i:Nat}(hi:i<=rs.length):BJ I w z (l.drop (i*z)) (rs.drop i):=by
 obtain⟨h1,h2,h3,h4⟩:=h
 refine⟨by rw[Mt,Mt,h1,Nat.sub_mul],λr hr=>h2 r (Sm hr),λu D=>h3 u (Sm D),λk r hk j v hj=>?_⟩
 rw[An]at hk
 obtain⟨u,D,hD⟩:=h4 _ r hk j v hj
 exact⟨u,by rw[An,<-D];congr 1;rw[Ww];omega,hD⟩
def BJ.mono {I I':Nat->Prop}{w w':World}(D:∀k,I k->I' k/\w'.heap[k]? = w.heap[k]?){l:L_ Value}{rs:L_ (L_ V)}(h:BJ I w z l rs):BJ I' w' z l rs:=
 ⟨h.1,h.2.1,h.2.2.1,λi r hi j v hj=>let ⟨u,hu,hD⟩:=h.2.2.2 i r hi j v hj;⟨u,hu,hD.mono D⟩⟩
section
variable {C:Xx}{σ:St}{o:Oper}
end
section
variable {P:Program}{C:Xx}{σ:St}{o:Oper}
def Stp.appSB {T U d e e' z z' by_ by' b n m:Nat}{x y:Operand}{rs us D:L_ (L_ V)}{zs:L_ V}(ho:o.op=.call { callee:=.builtin .append,args:=#[x,y],argTypes:=#[T,U] })
  (hd:o.dst=some d) (hn:B_ d C) (hx:σ.opd x=some (.own b n)) (hb:look σ.hp b=some (.arr z rs)) (hb1:Nat.ble 618 b=false) (hnl:rs.length=n)
  (hT:Yi P T=some (e,z,by_)) (hU:Yi P U=some (e',z',by')) (hz:XJ P e=some zs) (hzl:zs.length=z) (hz0:z≠0) (hb0:1<=by_) (h:decide ((n+us.length)*by_<=140737488355328)=true)
  (hy:σ.opd y=some (.sl z us)) (he:rs++us=D) (hm:n+us.length=m):Stp P C o σ (σ.app b z d m D):=
 Stp.appendB ho hd hn hx hb hb1 hnl hT hU hz hzl hz0 (Ym (Nat.le_mul_of_pos_right _ hb0) (Xw h)) (Xw h) (λφ a w hr=>(hr.opd hy).source_sl) he hm
def QdA {α β:Type}{us:L_ α}{y:L_ β}{n b L:Nat}(h:decide ((n+y.length)*b<=L)=true)(e:us.length=y.length):decide ((n+us.length)*b<=L)=true:=by rw[e];exact h
end
def R.frzVar {C:Xx}{σ:St}{a:Act}{w:World}(h:R C σ a w){p i b:Nat}{cs vs:L_ V}(hpb:Nat.beq p b=false)(hb1:Nat.ble 616 b=false)(hp:look σ.hp p=some (.var cs))(hi:cs[i]? = some (.own b 1))(hb:look σ.hp b=some (.var vs))
  (hd:vs.all (λv=>v.dat&&v.one)=true) (hc:(cs.set i (.b true)).all V.dat=true):R C ((σ.kill b).set p (.var (cs.set i (.sl vs.length [vs])))) a w:=by
 obtain⟨φ,hr⟩:=h
 have hk:=hr.kill b
 have hne:p≠b:=λe=>by subst e;rw[Nat.beq_refl]at hpb;cases hpb
 have hob:=Jj _ _ _ hne hp
 have hI:∀k,QZ C φ w k->QZ C (WW φ b) w k/\w.heap[k]? = w.heap[k]? := λk hk=>⟨hk.of_del,rfl⟩
 refine⟨_,hk.sayOb hob (λB hB _=>?_) (.inr λhn=>hn.elim)⟩
 obtain⟨_,hB'⟩:=Jk hB
 obtain⟨xs,E,e1,e2,e0,e3⟩:QiL φ (QZ C φ w) w B cs:=hr.block hB' hp
 refine⟨xs,E,e1,by simpa using e2,e0,λj x v hx hv=>?_⟩
 have hlt:=(Xa.1 hi).1
 by_cases c:i=j
 ·subst c
  rw[PG hlt]at hv
  cases hv
  refine .dat ?_
  rcases(e3 i x _ hx hi).own_inv with⟨_,h1⟩|⟨D,hBb,hcap,rfl⟩
  ·cases h1
  obtain⟨ys,E2,f1,f2,f0,f3⟩:QiL φ (QZ C φ w) w D vs:=hr.block hBb hb
  have hIb:QZ C (WW φ b) w D.b:=by
   refine⟨(hr.lt b D _ hBb D.self).1,λhlt=>?_,λo B' hB' e=>?_⟩
   ·have hb':b<616:=by
     rcases Df b 616 with h | h
     ·exact h
     rw[NI h]at hb1;cases hb1
    have:=hr.new b D _ hBb D.self hb';omega
   obtain⟨h4,h5⟩:=Jk hB'
   exact h4 (hr.inj o b B' D _ h5 hBb e D.self)
  rw[XF]at hd
  have hd1:∀v∈vs,v.dat=true/\v.one=true:=λv hv=>Bool.and_eq_true_iff.1 (hd v hv)
  refine .sl D.b D.off 1 D.cap vs.length _ (λj=>ys.getD (D.off+j) undef) hIb (by simp) hcap (λr hr'=>by rw[Ao]at hr';subst hr';exact⟨rfl,λv hv=>(hd1 v hv).2⟩) (λj hj=>?_) (λi r hi j v hj=>?_)
  ·rw[f0,Ff]
   have:j<ys.size:=by omega
   simp[World.cell?,f1,Array.getD,this]
  cases i with
  | zero=>
   simp at hi
   subst hi
   have hj':=(Xa.1 hj).1
   have hy:ys[j]? = some ys[j]:=GG (by omega)
   have:ys.getD (D.off+(0*vs.length+j)) undef=ys[j]:=by simp[f0,Rz,hy]
   rw[this]
   exact((f3 j _ v hy hj).toDat (hd1 v (XE hj)).1).mono hI
  | succ i=>simp at hi
 rw[Ix c]at hv
 rw[XF]at hc
 have hv':v.dat=true:=hc v (XE (by rw[Ix c];exact hv))
 exact .dat (((e3 j x v hx hv).toDat hv').mono hI)
def AK.frzVar {P:Program}{C:Xx}{Q:Exit->St->Prop}{pt:Pt}{ks:L_ Fr}{σ:St}{p i b:Nat}{h vs:L_ V}(hpb:Nat.beq p b=false)(D:Nat.ble 616 b=false)(hp:look σ.hp p=some (.var h))(hi:h[i]? = some (.own b 1))(hb:look σ.hp b=some (.var vs))
  (hd:vs.all (λv=>v.dat&&v.one)=true) (hc:(h.set i (.b true)).all V.dat=true) (k:AK P C Q pt ks ((σ.kill b).set p (.var (h.set i (.sl vs.length [vs]))))):AK P C Q pt ks σ:=
 AK.weaken (λa w hR=>R.frzVar hR hpb D hp hi hb hd hc) k
section
variable {P:Program}{C:Xx}{o:Oper}{σ:St}
end
noncomputable abbrev V.Y:V:=.lit (.slice none 0 0)
end Go.Vm
