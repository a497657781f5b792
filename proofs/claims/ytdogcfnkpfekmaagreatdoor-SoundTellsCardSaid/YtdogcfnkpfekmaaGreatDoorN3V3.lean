/- A part of the proof. -/
import Derived.Test.YtdogcfnkpfekmaaGreatDoorN3V2
import Derived.Laws.StructEq
import Derived.Laws.Cover3
import Derived.RangeFuncIn
import Derived.Shelf.Sort.Plain
import Derived.Shelf.Slices.In.SortNone
import Derived.Laws.BytesString
import Derived.Shelf.Slices.CompactI
import Derived.Shelf.Strings.Fields
import Derived.Carry
import Derived.ReadAgain
import Derived.OpenShut
import GoSem.ClaimJoined
import Derived.Lib.LaidTab
import Derived.LaidMore
import Derived.MakeChecks
import Derived.Stop.LaidErr
import Derived.Stop.Joined
import Derived.SizedLaws
import Derived.Handed
import Derived.Shelf.Spec.SlicesInsertGrow
set_option linter.all false
namespace Go.Vm
open Go Go.RowKit
open Option renaming some→X
structure Yr where
 kills:List Nat
 sets:List (Nat×Ob)
 put:Option (Nat×V)
def St.sets (σ:St):H_->St
 | []=>σ
 | (o,ob)::r=>(σ.sets r).set o ob
def Yr.run (M:Yr)(σ:St):St:=match M.put with
 | none=>(σ.killL M.kills).sets M.sets
 | some (d,v)=>((σ.killL M.kills).sets M.sets).put d v
def Um (σ B:St):Prop:=(∀t v,look B.fr t=X v->look σ.fr t=X v)/\∀p ob,look B.hp p=X ob->look σ.hp p=X ob
def VN {b:Nat}:∀(l:S_) (t:Nat),look (IX b l) t=(look l t).map (V.kill b):=by
 intro l
 induction l with
 | nil=>intro t;rfl
 | cons p l h=>
  obtain⟨k,v⟩:=p;intro t;by_cases e:k=t
  ·subst e;rw[IX,QB,QB];rfl
  rw[IX,Qw _ _ e,Qw _ _ e];exact h t
def NI {b:Nat}:∀(l:H_) (t:Nat),look (Uk b l) t=if t=b then none else(look l t).map (Ob.kill b):=by
 intro l t;by_cases h:t=b
 ·rw[if_pos h];cases hl:look (Uk b l) t with
  | none=>rfl
  | some ob=>obtain⟨O,_⟩:=Jv _ _ _ hl;exact absurd h O
 rw[if_neg h];cases hl:look l t with
 | none=>
  cases hk:look (Uk b l) t with
  | none=>rfl
  | some ob=>obtain⟨_,ob',O,_⟩:=Jv _ _ _ hk;rw[hl]at O;cases O
 | some ob=>exact JO _ _ _ h hl
def Um.kill {σ B:St}(h:Um σ B)(b:Nat):Um (σ.kill b) (B.kill b):=by
 refine⟨λt v hv=>?_,λp ob O=>?_⟩
 ·have hv:look (IX b B.fr) t=X v:=hv;show look (IX b σ.fr) t=X v;rw[VN]at hv ⊢;obtain⟨u,hu,rfl⟩:=Yq.1 hv;rw[h.1 t u hu];rfl
 have O:look (Uk b B.hp) p=X ob:=O;show look (Uk b σ.hp) p=X ob;rw[NI]at O ⊢;split at O
 ·cases O
 rename_i hne;rw[if_neg hne];obtain⟨u,hu,rfl⟩:=Yq.1 O;rw[h.2 p u hu];rfl
def Um.killL : ∀{l:L_ Nat} {σ B:St},Um σ B->Um (σ.killL l) (B.killL l):=by
 intro l
 induction l with
 | nil=>intro σ B h;exact h
 | cons b l O=>intro σ B h;exact O (h.kill b)
def Um.set {σ B:St}(h:Um σ B)(o:Nat)(ob:Ob):Um (σ.set o ob) (B.set o ob):=by
 refine⟨h.1,λp u O=>?_⟩;by_cases e:p=o
 ·subst e;rw[St.look_set_same]at O ⊢;exact O
 rw[St.look_set_other _ _ (Ne.symm e)]at O ⊢;exact h.2 p u O
def Um.sets : ∀{l:H_} {σ B:St},Um σ B->Um (σ.sets l) (B.sets l):=by
 intro l
 induction l with
 | nil=>intro σ B h;exact h
 | cons p l O=>intro σ B h;exact(O h).set p.1 p.2
def Um.put {σ B:St}(h:Um σ B)(d:Nat)(v:V):Um (σ.put d v) (B.put d v):=by
 refine⟨λt u O=>?_,h.2⟩;have O:look ((d,v)::B.fr) t=X u:=O;show look ((d,v)::σ.fr) t=X u;by_cases e:d=t
 ·subst e;rw[QB]at O ⊢;exact O
 rw[Qw _ _ e]at O ⊢;exact h.1 t u O
def Um.run {σ B:St}(h:Um σ B)(M:Yr):Um (M.run σ) (M.run B):=by
 unfold Yr.run;split
 ·exact h.killL.sets
 exact h.killL.sets.put _ _
def Yr.keeps (M:Yr)(t:Nat)(v:V):Bool:=M.kills.all (λb=>v.free b)&&(match M.put with | none=>true | some (d,_)=>!(Nat.beq d t))
def Yr.keepsO (M:Yr)(p:Nat):Bool:=M.kills.all (λb=>!(Nat.beq b p))&&M.sets.all (λq=>!(Nat.beq q.1 p))
def Ob.keep1 (b:Nat):Ob->Bool
 | .var h=>h.all (V.freeC b)
 | .lp _ _ h _=>h.all (V.freeC b)
 | _=>true
def QsS : ∀{l:L_ Nat} {σ:St} {t:Nat} {v:V},l.all (λb=>v.free b)=true->look σ.fr t=X v->look (σ.killL l).fr t=X v:=by
 intro l
 induction l with
 | nil=>intro σ t v _ h;exact h
 | cons b l ih=>
  intro σ t v O h;rw[Zt,QJ]at O;refine ih O.2 ?_;show look (IX b σ.fr) t=X v;rw[VN,h,Ki,V.kill,O.1];rfl
def Qob : ∀{l:H_} {σ:St},(σ.sets l).fr=σ.fr:=by
 intro l
 induction l with
 | nil=>intro σ;rfl
 | cons p l h=>intro σ;exact h
def Yr.keeps_look {M:Yr}{σ:St}{t:Nat}{v:V}(O:M.keeps t v=true)(h:look σ.fr t=X v):look (M.run σ).fr t=X v:=by
 unfold Yr.keeps at O;rw[QJ]at O;have h1:look ((σ.killL M.kills).sets M.sets).fr t=X v:=by rw[Qob];exact QsS O.1 h
 unfold Yr.run;split
 ·exact h1
 rename_i d u hp;rw[hp]at O;have hne:d≠t:=AJ O.2;show look ((d,u)::_) t=X v;rw[Qw _ _ hne];exact h1
def Qoc : ∀{l:L_ Nat} {σ:St} {p:Nat},look σ.hp p=none->look (σ.killL l).hp p=none:=by
 intro l
 induction l with
 | nil=>intro σ p h;exact h
 | cons b l O=>
  intro σ p h;refine O ?_;show look (Uk b σ.hp) p=none;rw[NI,h];simp
def QqR : ∀{l:H_} {σ:St} {p:Nat},l.all (λq=>!(Nat.beq q.1 p))=true->look σ.hp p=none->look (σ.sets l).hp p=none:=by
 intro l
 induction l with
 | nil=>intro σ p _ h;exact h
 | cons q l ih=>
  intro σ p O h;rw[Zt,QJ]at O;show look ((σ.sets l).set q.1 q.2).hp p=none;rw[St.look_set_other _ _ (AJ O.1)];exact ih O.2 h
def Yr.none_look {M:Yr}{σ:St}{p:Nat}(hk:M.sets.all (λq=>!(Nat.beq q.1 p))=true)(h:look σ.hp p=none):look (M.run σ).hp p=none:=by
 have O:look ((σ.killL M.kills).sets M.sets).hp p=none:=QqR hk (Qoc h);unfold Yr.run;split<;>exact O
def Ob.kill_keep {ob:Ob}{b:Nat}(h:ob.keep1 b=true):ob.kill b=ob:=by
 cases ob with
 | var O=>
  simp only[Ob.keep1,XJ]at h;simp only[Ob.kill,Ob.var.injEq]
  conv=>rhs;rw[<-List.map_id O]
  apply List.map_congr_left;intro v hv;simp only[V.killC,h v hv,Ql,id]
 | lp l K O q=>
  simp only[Ob.keep1,XJ]at h;simp only[Ob.kill,Ob.lp.injEq,true_and,and_true]
  conv=>rhs;rw[<-List.map_id O]
  apply List.map_congr_left;intro v hv;simp only[V.killC,h v hv,Ql,id]
 | _=>rfl
def QpN : ∀{l:L_ Nat} {σ:St} {p:Nat} {ob:Ob},l.all (λb=>!(Nat.beq b p))=true->l.all (λb=>ob.keep1 b)=true->look σ.hp p=X ob->look (σ.killL l).hp p=X ob:=by
 intro l
 induction l with
 | nil=>intro σ p ob _ _ h;exact h
 | cons b l ih=>
  intro σ p ob O hp h;rw[Zt,QJ]at O hp;refine ih O.2 hp.2 ?_;show look (Uk b σ.hp) p=X ob;rw[NI,if_neg (AJ O.1).symm,h,Ki,Ob.kill_keep hp.1]
def QqS : ∀{l:H_} {σ:St} {p:Nat} {ob:Ob},l.all (λq=>!(Nat.beq q.1 p))=true->look σ.hp p=X ob->look (σ.sets l).hp p=X ob:=by
 intro l
 induction l with
 | nil=>intro σ p ob _ h;exact h
 | cons q l ih=>
  intro σ p ob O h;rw[Zt,QJ]at O;show look ((σ.sets l).set q.1 q.2).hp p=X ob;rw[St.look_set_other _ _ (AJ O.1)];exact ih O.2 h
def Yr.keepsO_look {M:Yr}{σ:St}{p:Nat}{ob:Ob}(O:M.keepsO p=true)(hp:M.kills.all (λb=>ob.keep1 b)=true)(h:look σ.hp p=X ob):look (M.run σ).hp p=X ob:=by
 unfold Yr.keepsO at O;rw[QJ]at O;have h1:look ((σ.killL M.kills).sets M.sets).hp p=X ob:=QqS O.2 (QpN O.1 hp h);unfold Yr.run;split<;>exact h1
section
variable {P:Program}{C:Xr}{Q:Exit->St->Prop}{ops:Array Oper}{σ:St}{ks:L_ Fr}
def Quc (Inv:Array Bool->St->Prop)
  (step:∀O σ i o,O.size=ops.size->Qho ops O->i∈Region.ready .any ops O->ops[i]? = X o->Inv O σ->∃σ',Kd P C ops o σ σ'/\Inv (O.setIfInBounds i true) σ')
  (hord:Qn6 ops=true) (hend:∀O σ,O.size=ops.size->(∀i,i<ops.size->O[i]? = X true)->Inv O σ->∀a w,R C σ a w->up C Q .normal a w):
  ∀(fuel:Nat) (O:Array Bool) (a:Act) (w:World) (σ:St),((List.range ops.size).filter λi=>!(O[i]? == X true)).length<=fuel->O.size=ops.size->Qho ops O->Inv O σ->R C σ a w->wpAnyIn C.F 0 P .any ops (up C Q) fuel O a w:=by
 intro fuel;have allOf:∀{O:Array Bool},O.size=ops.size->Region.ready .any ops O=[]->∀i,i<ops.size->O[i]? = X true:=by
  intro O hs hr;apply Classical.byContradiction;intro h;have hex:∃i,i<ops.size/\O[i]? ≠ X true:=by
   apply Classical.byContradiction;intro h';exact h λi hi=>Classical.byContradiction λhn=>h' ⟨i,hi,hn⟩
  obtain⟨k,h1,h2,h3⟩:=QqC ops.size hex;have:=QrN hord hs h1 h2 h3;rw[hr]at this;cases this
 induction fuel with
 | zero=>
  intro O a w σ hf hs hd hI hR;have hall:∀i,i<ops.size->O[i]? = X true:=λi hi=>by
   have:=HO.1 (Nat.le_zero.1 hf);rw[List.filter_eq_nil_iff]at this;simpa using this i (Eo.2 hi)
  refine⟨?_,hend O σ hs hall hI a w hR⟩;rw[List.eq_nil_iff_forall_not_mem];intro i hi;obtain⟨o,ho,hl,_⟩:=(SM hs).1 hi;rw[hall i (AX.1 ho).1]at hl;cases hl
 | succ fuel ih=>
  intro O a w σ hf hs hd hI hR;refine⟨λhr=>hend O σ hs (allOf hs hr) hI a w hR,λi hi=>?_⟩;obtain⟨o,ho,hl,hdeps⟩:=(SM hs).1 hi;obtain⟨σ',hos,hI'⟩:=step O σ i o hs hd hi ho hI;have hin:i<O.size:=by rw[hs];exact(AX.1 ho).1
  have next:∀a' w',R C σ' a' w'->wpAnyIn C.F 0 P .any ops (up C Q) fuel (O.setIfInBounds i true) a' w':=λa' w' hR'=>by
   refine ih _ a' w' σ' ?_ (by simpa using hs) (hd.set hs hi) hI' hR';have count:∀(l:L_ Nat),i∈l->(l.filter λj=>!((O.setIfInBounds i true)[j]? == X true)).length+1<=(l.filter λj=>!(O[j]? == X true)).length:=by
    intro l;have le:∀(l:L_ Nat),(l.filter λj=>!((O.setIfInBounds i true)[j]? == X true)).length<=(l.filter λj=>!(O[j]? == X true)).length:=by
     intro l
     induction l with
     | nil=>simp
     | cons x l ihl=>
      by_cases e:i=x
      ·subst e;rw[List.filter_cons_of_neg (by simp[Qej,hin]),List.filter_cons_of_pos (by rw[hl];simp)];simp;omega
      simp only[Bx,Qqx e];split
      ·simpa using ihl
      exact ihl
    induction l with
    | nil=>intro h;cases h
    | cons x l ihl=>
     intro hm;by_cases e:i=x
     ·subst e;rw[List.filter_cons_of_neg (by simp[Qej,hin]),List.filter_cons_of_pos (by rw[hl];simp)];have:=le l;simp;omega
     have hm':i∈l:=by
      rcases XV.1 hm with h | h
      ·exact absurd h e
      exact h
     have:=ihl hm';simp only[Bx,Qqx e];split
     ·simpa using this
     exact this
   have:=count (List.range ops.size) (Eo.2 (by rw[<-hs];exact hin));omega
  unfold wpOpIn;simp only[ho];have:=hos a w hR (wpAnyIn C.F 0 P .any ops (up C Q) fuel (O.setIfInBounds i true)) (up C Q) next;split
  ·rename_i hw;rw[if_pos hw]at this;exact this
  rename_i hw;rw[if_neg hw]at this;exact⟨λ_ _=>trivial,this⟩
def AK.regionInv {id:Nat}(Inv:Array Bool->St->Prop)(hmix:P.follows .mixedOrders=true)
  (step:∀O σ i o,O.size=ops.size->Qho ops O->i∈Region.ready .any ops O->ops[i]? = X o->Inv O σ->∃σ',Kd P C ops o σ σ'/\Inv (O.setIfInBounds i true) σ')
  (hord:Qn6 ops=true) (h0:Inv (Array.replicate ops.size false) σ) (hend:∀O σ',O.size=ops.size->(∀i,i<ops.size->O[i]? = X true)->Inv O σ'->AK P C Q (.x .normal) ks σ'):AK P C Q (.c (.region id ops true)) ks σ:=by
 intro a w hR;refine wpIn_region_any hmix ?_;have hR':R C σ a { w with drawn:=w.drawn+1 }:=by
  obtain⟨φ,hr⟩:=hR;exact⟨φ,hr.step rfl rfl rfl (Yx _) (λ_ _=>rfl)⟩
 refine Quc Inv step hord (λO σ' hs hall hI a w hR=>hend O σ' hs hall hI a w hR) ops.size (Array.replicate ops.size false) a _ σ ?_ (by simp) ?_ h0 hR'
 ·exact XZ (LV _ _) (by simp)
 intro i o _ h;simp[Array.getElem?_replicate]at h
end
inductive It where
 | add (x:DF) (fl nf:Bool)
 | tn (M:Yr)
def Xq : L_ It->L_ Yr
 | []=>[]
 | .add _ _ _::r=>Xq r
 | .tn M::r=>M::Xq r
def Tn (base:St):L_ Yr->St
 | []=>base
 | M::r=>Tn (M.run base) r
def Qqt (x:DF)(M:Yr):Bool:=match x.ob with | none=>true | some ob=>M.keepsO x.d&&M.kills.all (λb=>ob.keep1 b)
def Qqu (x:DF)(M:Yr):Bool:=M.keeps x.d x.v&&Qqt x M
def alv (x:DF)(fl:Bool)(ms:L_ Yr):Bool:=ms.all (λM=>M.keeps x.d x.v)
def Qen (x:DF)(fl:Bool)(ms:L_ Yr):Bool:=ms.all (Qqt x)
def Tp (σ:St)(x:DF)(fl:Bool)(ms:L_ Yr):Prop:=(alv x fl ms=true->look σ.fr x.d=X x.v)/\(Qen x fl ms=true->∀ob,x.ob=X ob->look σ.hp x.d=X ob)
def FD (ops:Array Oper):Nat->Nat->Nat->Bool
 | 0,_,_=>false
 | n+1,i,k=>match ops[k]? with
  | some o=>OW o i||o.after.toList.any λe=>Region.binds .any e&&FD ops n i e.on
  | none=>false
def QfS (its:L_ It)(p:Nat):Bool:=match its[p]? with
 | some (.tn _)=>true
 | _=>false
def QvK (ops:Array Oper)(its:L_ It):Bool:=(List.range its.length).all λi=>(List.range its.length).all λp=>!(QfS its p)||Nat.beq p i ||
 (match its[i]? with | some (.add _ true false)=>true | some _=>bif Nat.ble (p+1) i then FD ops 8 p i else FD ops 8 i p | none=>true)
def QbG : L_ It->L_ Nat
 | []=>[]
 | .add x _ _::r=>x.d::QbG r
 | .tn _::r=>QbG r
def MZ : L_ Yr->L_ Nat
 | []=>[]
 | M::r=>match M.put with
  | some (d,_)=>d::MZ r
  | none=>MZ r
def QqT : L_ Yr->L_ Nat
 | []=>[]
 | M::r=>M.sets.map Prod.fst++QqT r
def QfT : L_ It->L_ Nat
 | []=>[]
 | .add x _ _::r=>match x.ob with
  | some _=>x.d::QfT r
  | none=>QfT r
 | .tn _::r=>QfT r
def Na (ms:L_ Yr):L_ It->Bool
 | []=>true
 | .add x fl _::r=>(!fl||ms.all (Qqu x))&&Na ms r
 | .tn _::r=>Na ms r
def Qhv (ms:L_ Yr)(S:St):Bool:=S.fr.all (λp=>ms.all λM=>M.keeps p.1 p.2)&&S.hp.all (λp=>ms.all λM=>M.keepsO p.1&&M.kills.all (λb=>p.2.keep1 b))
def QqU (base:St)(its:L_ It):Bool:=FR (QbG its)&&(QbG its).all (λd=>!(XK (keys base.fr) d)&&!(XK (MZ (Xq its)) d)) &&
 (QfT its).all (λd=>!(XK (keys base.hp) d))
def QsT (ops:Array Oper)(its:L_ It):Bool:=(List.range its.length).all λi=>(List.range its.length).all λp=>match its[i]? with
 | some (.add x _ _)=>match its[p]? with
  | some (.tn M)=>x.ob.isNone||!(XK (M.sets.map Prod.fst) x.d)||FD ops 8 i p
  | _=>true
 | _=>true
section
variable {P:Program}{C:Xr}{Q:Exit->St->Prop}{ops:Array Oper}{ks:L_ Fr}{base S:St}{its:L_ It}
def j0 (its:L_ It)(k:Nat):Nat:=(Xq (its.take k)).length
def QeO (P:Program)(C:Xr)(ops:Array Oper)(base S:St)(its:L_ It)(i:Nat)(o:Oper):It->Prop
 | .add x fl h=>match fl&&!h with
  | false=>∀σ,Um σ (Tn base ((Xq its).take (j0 its i)))->(∀k y fl h,its[k]? = X (.add y fl h)->OW o k=true->Tp σ y fl (((Xq its).take (j0 its i)).drop (j0 its k)))->(x.ob.isSome=true->look σ.hp x.d=none)->Kd P C ops o σ (σ.addF x)
  | true=>∀σ,Um σ S->(∀k y h,its[k]? = X (.add y true h)->OW o k=true->QfH σ y)->(x.ob.isSome=true->look σ.hp x.d=none)->Kd P C ops o σ (σ.addF x)
 | .tn M=>∀σ,Um σ (Tn base ((Xq its).take (j0 its i)))->(∀k y fl h,its[k]? = X (.add y fl h)->OW o k=true->Tp σ y fl (((Xq its).take (j0 its i)).drop (j0 its k)))->Kd P C ops o σ (M.run σ)
def FU {O:Array Bool}(hd:Qho ops O):∀(n:Nat) {i k:Nat},FD ops n i k=true->O[k]? = X true->O[i]? = X true:=by
 intro n
 induction n with
 | zero=>intro i k h;cases h
 | succ n ih=>
  intro i k h hk;rw[FD]at h;split at h
  ·rename_i o ho;rw[KW]at h;rcases h with h | h
   ·simp only[OW,EX,QJ]at h;obtain⟨e,he,hb,hon⟩:=h;have:=hd k o ho hk e (Qj7.1 he) hb;rwa[Yj hon]at this
   simp only[EX,QJ]at h;obtain⟨e,he,hb,hm⟩:=h;exact ih hm (hd k o ho hk e (Qj7.1 he) hb)
  cases h
def Qj0 {O:Array Bool}(hs:O.size=ops.size)(hd:Qho ops O){n i k:Nat}(h:FD ops n i k=true)(hk:k∈Region.ready .any ops O):O[i]? = X true:=by
 obtain⟨o,ho,hl,hdeps⟩:=(SM hs).1 hk;cases n with
 | zero=>cases h
 | succ n=>
  rw[FD,ho]at h;dsimp only at h;rw[KW]at h;rcases h with h | h
  ·simp only[OW,EX,QJ]at h;obtain⟨e,he,hb,hon⟩:=h;have:=hdeps e (Qj7.1 he) hb;rwa[Yj hon]at this
  simp only[EX,QJ]at h;obtain⟨e,he,hb,hm⟩:=h;exact FU hd n hm (hdeps e (Qj7.1 he) hb)
def BZ : ∀{l m:L_ It},Xq (l++m)=Xq l++Xq m:=by
 intro l
 induction l with
 | nil=>intro m;rfl
 | cons x l h=>intro m;cases x<;>simp[Xq,h]
def Qme {ms h:L_ Yr}:∀{B:St},Tn B (ms++h)=Tn (Tn B ms) h:=by
 induction ms with
 | nil=>intro B;rfl
 | cons M ms O=>intro B;exact O
def QsU {its:L_ It}{i:Nat}{M:Yr}(h:its[i]? = X (.tn M)):(Xq its)[j0 its i]? = X M/\(Xq its).take (j0 its i+1)=(Xq its).take (j0 its i)++[M]:=by
 have O:=(QX.1 h).1;have e:its=its.take i++(.tn M::its.drop (i+1)):=by
  have:its.drop i=its[i]::its.drop (i+1):=Fz O;have h2:its[i]=.tn M:=by have:=Qp O;rw[h]at this;exact(Option.some.inj this).symm
  rw[h2]at this;rw[<-this,List.take_append_drop]
 have e2:Xq its=Xq (its.take i)++(M::Xq (its.drop (i+1))):=by
  conv=>lhs;rw[e]
  rw[BZ];rfl
 unfold j0;rw[e2];refine⟨by simp,?_⟩;rw[List.take_append,List.take_append];simp[JE]
def QsV {σ:St}{x:DF}{M:Yr}(hk:Qqu x M=true)(h:QfH σ x):QfH (M.run σ) x:=by
 unfold Qqu Qqt at hk;rw[QJ]at hk;refine⟨Yr.keeps_look hk.1 h.1,λob hob=>?_⟩;rw[hob]at hk;have O:=hk.2;dsimp only at O;rw[QJ]at O;exact Yr.keepsO_look O.1 O.2 (h.2 ob hob)
def Tp.of {σ:St}{x:DF}{fl:Bool}{ms:L_ Yr}(h:QfH σ x):Tp σ x fl ms:=⟨λ_=>h.1,λ_=>h.2⟩
def Tp.run {σ:St}{x:DF}{fl:Bool}{ms:L_ Yr}{M:Yr}(h:Tp σ x fl ms):Tp (M.run σ) x fl (ms++[M]):=by
 refine⟨λO=>?_,λO ob hob=>?_⟩
 ·simp only[alv,List.all_append,QJ,Zt,List.all_nil,Zs]at O;exact Yr.keeps_look O.2 (h.1 (by simp only[alv];exact O.1))
 simp only[Qen,List.all_append,QJ,Zt,List.all_nil,Zs]at O;have h1:=h.2 (by simp only[Qen];exact O.1) ob hob;have hk:=O.2;unfold Qqt at hk;rw[hob]at hk;dsimp only at hk;rw[QJ]at hk;exact Yr.keepsO_look hk.1 hk.2 h1
def Qud {p:Nat}{M:Yr}(h:its[p]? = X (.tn M)):j0 its (p+1)=j0 its p+1:=by
 have O:=(QX.1 h).1;unfold j0;rw[UF,h,BZ];simp[Xq]
def Qmf : ∀{a b:Nat},a<=b->j0 its a<=j0 its b:=by
 intro a b h;unfold j0;obtain⟨c,rfl⟩:=Nat.exists_eq_add_of_le h;rw[List.take_add,BZ];simp
def QsW {p i:Nat}{M:Yr}(h:its[p]? = X (.tn M))(O:p<i):j0 its p<j0 its i:=by
 have:=Qud h;have:=Qmf (its:=its) (show p+1<=i from O);omega
def QiJ : ∀{its:L_ It} {c:Nat},c<(Xq its).length->∃p M,its[p]? = X (.tn M)/\j0 its p=c:=by
 intro its
 induction its with
 | nil=>intro c h;simp[Xq]at h
 | cons it its ih=>
  intro c h;cases it with
  | add x fl=>
   obtain⟨p,M,O,h2⟩:=ih (c:=c) h;exact⟨p+1,M,by simpa using O,by simpa[j0,Xq] using h2⟩
  | tn M=>
   cases c with
   | zero=>exact⟨0,M,rfl,by simp[j0,Xq]⟩
   | succ c=>
    obtain⟨p,M',O,h2⟩:=ih (c:=c) (by simpa[Xq] using h);exact⟨p+1,M',by simpa using O,by simpa[j0,Xq] using h2⟩
def QqV {p:Nat}{M:Yr}(h:its[p]? = X (.tn M)):j0 its p<(Xq its).length:=(QX.1 (QsU h).1).1
def Um.stable : ∀{ms:L_ Yr} {B S:St},Qhv ms S=true->Um B S->∀n,Um (Tn B (ms.take n)) S:=by
 intro ms
 induction ms with
 | nil=>intro B S _ h n;simpa[Tn] using h
 | cons M ms ih=>
  intro B S O h n;cases n with
  | zero=>exact h
  | succ n=>
   unfold Qhv at O;rw[QJ,XJ,XJ]at O;refine ih (B:=M.run B) ?_ ⟨λt v hv=>?_,λp ob hob=>?_⟩ n
   ·unfold Qhv;rw[QJ,XJ,XJ];exact⟨λp hp=>by have:=O.1 p hp;rw[Zt,QJ]at this;exact this.2,λp hp=>by have:=O.2 p hp;rw[Zt,QJ]at this;exact this.2⟩
   ·have:=O.1 (t,v) (Jw hv);rw[Zt,QJ]at this;exact Yr.keeps_look this.1 (h.1 t v hv)
   have:=O.2 (p,ob) (Jw hob);rw[Zt,QJ,QJ]at this;exact Yr.keepsO_look this.1.1 this.1.2 (h.2 p ob hob)
def QfU : ∀{its:L_ It} {i:Nat} {x:DF} {fl nf:Bool},its[i]? = X (.add x fl nf)->x.d∈QbG its/\(x.ob.isSome=true->x.d∈QfT its):=by
 intro its
 induction its with
 | nil=>intro i x fl nf h;simp at h
 | cons it its ih=>
  intro i x fl nf h;cases i with
  | zero=>
   simp at h;subst h;refine⟨XD,λO=>?_⟩;rw[QfT];split
   ·exact XD
   rename_i he;rw[he]at O;cases O
  | succ i=>
   obtain⟨a,b⟩:=ih (i:=i) (by simpa using h);cases it with
   | add y fl' nf'=>
    refine⟨Yb _ a,λO=>?_⟩;rw[QfT];split
    ·exact Yb _ (b O)
    exact b O
   | tn M=>exact⟨a,b⟩
def Qka : ∀{its:L_ It},(QbG its).Nodup->∀{i k:Nat} {x y:DF} {fl O nf nf':Bool},its[i]? = X (.add x fl nf)->its[k]? = X (.add y O nf')->x.d=y.d->i=k:=by
 intro its
 induction its with
 | nil=>intro _ i k x y fl O nf nf' h;simp at h
 | cons it its ih=>
  intro hn i k x y fl O nf nf' hi hk e;cases it with
  | tn M=>
   cases i with
   | zero=>simp at hi
   | succ i=>cases k with
    | zero=>simp at hk
    | succ k=>rw[ih hn (i:=i) (k:=k) (by simpa using hi) (by simpa using hk) e]
  | add z f g=>
   rw[QbG,Ao]at hn;cases i with
   | zero=>
    cases k with
    | zero=>rfl
    | succ k=>
     simp at hi;obtain⟨rfl,rfl,rfl⟩:=hi;exact absurd (by rw[e];exact(QfU (i:=k) (by simpa using hk)).1) hn.1
   | succ i=>
    cases k with
    | zero=>
     simp at hk;obtain⟨rfl,rfl,rfl⟩:=hk;exact absurd (by rw[<-e];exact(QfU (i:=i) (by simpa using hi)).1) hn.1
    | succ k=>rw[ih hn.2 (i:=i) (k:=k) (by simpa using hi) (by simpa using hk) e]
def QvL {M:Yr}{B:St}{t:Nat}{v:V}(h:look (M.run B).fr t=X v):(∃u,look B.fr t=X u)\/∃u,M.put=X (t,u):=by
 have kill:∀{l:L_ Nat} {B:St} {v:V},look (B.killL l).fr t=X v->∃u,look B.fr t=X u:=by
  intro l
  induction l with
  | nil=>intro B v h;exact⟨v,h⟩
  | cons b l ih=>
   intro B v h;obtain⟨u,O⟩:=ih h;have O:look (IX b B.fr) t=X u:=O;rw[VN]at O;obtain⟨w,hw,_⟩:=Yq.1 O;exact⟨w,hw⟩
 unfold Yr.run at h;split at h
 ·rw[Qob]at h;exact .inl (kill h)
 rename_i d u hp;by_cases e:d=t
 ·subst e;exact .inr ⟨u,hp⟩
 have h:look ((d,u)::((B.killL M.kills).sets M.sets).fr) t=X v:=h;rw[Qw _ _ e,Qob]at h;exact .inl (kill h)
def Que {M:Yr}{B:St}{p:Nat}{ob:Ob}(h:look (M.run B).hp p=X ob):(∃u,look B.hp p=X u)\/p∈M.sets.map Prod.fst:=by
 have kill:∀{l:L_ Nat} {B:St} {ob:Ob},look (B.killL l).hp p=X ob->∃u,look B.hp p=X u:=by
  intro l
  induction l with
  | nil=>intro B ob h;exact⟨ob,h⟩
  | cons b l ih=>
   intro B ob h;obtain⟨u,O⟩:=ih h;have O:look (Uk b B.hp) p=X u:=O;rw[NI]at O;split at O
   ·cases O
   obtain⟨w,hw,_⟩:=Yq.1 O;exact⟨w,hw⟩
 have sets:∀{l:H_} {B:St} {ob:Ob},look (B.sets l).hp p=X ob->(∃u,look B.hp p=X u)\/p∈l.map Prod.fst:=by
  intro l
  induction l with
  | nil=>intro B ob h;exact .inl ⟨ob,h⟩
  | cons q l ih=>
   intro B ob h;by_cases e:q.1=p
   ·exact .inr (by rw[EZ,e];exact XD)
   have h:look ((B.sets l).set q.1 q.2).hp p=X ob:=h;rw[St.look_set_other _ _ e]at h;exact(ih h).imp id (Yb _)
 have h1:look ((B.killL M.kills).sets M.sets).hp p=X ob:=by
  unfold Yr.run at h;split at h<;>exact h
 rcases sets h1 with⟨u,O⟩|h2
 ·exact .inl (kill O)
 exact .inr h2
def QvM : ∀{ms:L_ Yr} {B:St} {t:Nat} {v:V},look (Tn B ms).fr t=X v->(∃u,look B.fr t=X u)\/t∈MZ ms:=by
 intro ms
 induction ms with
 | nil=>intro B t v h;exact .inl ⟨v,h⟩
 | cons M ms ih=>
  intro B t v h;rcases ih h with⟨u,O⟩|h
  ·rcases QvL O with h | ⟨u,hp⟩
   ·exact .inl h
   refine .inr ?_;rw[MZ,hp];exact XD
  refine .inr ?_;rw[MZ];split
  ·exact Yb _ h
  exact h
def Quf : ∀{ms:L_ Yr} {B:St} {p:Nat} {ob:Ob},look (Tn B ms).hp p=X ob->(∃u,look B.hp p=X u)\/p∈QqT ms:=by
 intro ms
 induction ms with
 | nil=>intro B p ob h;exact .inl ⟨ob,h⟩
 | cons M ms ih=>
  intro B p ob h;rcases ih h with⟨u,O⟩|h
  ·rcases Que O with h | h
   ·exact .inl h
   exact .inr (NG _ h)
  exact .inr (QiB _ h)
def QrR : ∀{ms:L_ Yr} {n t:Nat},t∈MZ (ms.take n)->t∈MZ ms:=by
 intro ms
 induction ms with
 | nil=>intro n t h;simpa using h
 | cons M ms O=>
  intro n t h;cases n with
  | zero=>simp[MZ]at h
  | succ n=>
   rw[List.take_succ_cons,MZ]at h;rw[MZ];split at h
   ·rcases XV.1 h with rfl | h
    ·exact XD
    exact Yb _ (O h)
   exact O h
def Qze (base:St)(its:L_ It)(h:Array Bool)(σ:St):Prop:=∃j,j<=(Xq its).length/\(∀p M,its[p]? = X (.tn M)->(h[p]? = X true↔j0 its p<j))/\Um σ (Tn base ((Xq its).take j))/\
 ∀i x fl O,its[i]? = X (.add x fl O)->(h[i]? = X true->Tp σ x fl (((Xq its).take j).drop (j0 its i)))/\(h[i]? ≠ X true->x.ob.isSome=true->look σ.hp x.d=none)/\(fl=true->h[i]? = X true->Na (Xq its) its=true\/j<(Xq its).length->QfH σ x)
def QxG (ops:Array Oper)(its:L_ It):Bool:=QfS its (its.length-1)&&(List.range (its.length-1)).all λi=>FD ops 8 i (its.length-1)
def Qod (ops:Array Oper)(ms:L_ Yr)(its:L_ It):Bool:=Na ms its||(Na (ms.take (ms.length-1)) its&&QxG ops its)
def QvN (its:L_ It)(i:Nat):Bool:=match its[i]? with
 | some (.add _ true false)=>true
 | _=>false
def endB (ops:Array Oper)(its:L_ It)(p:Nat):Bool:=QfS its p&&Nat.beq (j0 its p+1) (Xq its).length&&(List.range its.length).all λi=>!QvN its i||FD ops 8 i p
def Qoe (ops:Array Oper)(its:L_ It)(ms:L_ Yr)(S:St):Bool:=Qhv ms S||(Qhv (ms.take (ms.length-1)) S&&(List.range its.length).any (endB ops its))
def AK.drawV {id:Nat}(hmix:P.follows .mixedOrders=true)(hlen:its.length=ops.size)(hord:Qn6 ops=true)(hov:QvK ops its=true)(hap:QqU base its=true)(hsv:QsT ops its=true)(hfk:Qod ops (Xq its) its=true)(hsk:Qoe ops its (Xq its) S=true)(hS:Um base S)
  (steps:∀i o it,ops[i]? = X o->its[i]? = X it->QeO P C ops base S its i o it)
  (k:∀σ,Um σ (Tn base (Xq its))->(∀i x fl nf,its[i]? = X (.add x fl nf)->Tp σ x fl ((Xq its).drop (j0 its i)))->AK P C Q (.x .normal) ks σ):AK P C Q (.c (.region id ops true)) ks base:=by
 simp only[QqU,QJ,XJ,An]at hap;obtain⟨⟨hnd,hd1⟩,hd2⟩:=hap;have hnd:=GK.1 hnd;have ord:∀i p it M,its[i]? = X it->its[p]? = X (.tn M)->p≠i->(∀x,it≠.add x true false)->(p<i->FD ops 8 p i=true)/\(i<p->FD ops 8 i p=true):=by
  intro i p it M hi hp hne hnf;have hil:=(QX.1 hi).1;have hpl:=(QX.1 hp).1;unfold QvK at hov;rw[XJ]at hov;have h1:=hov i (Eo.2 hil);rw[XJ]at h1;have h2:=h1 p (Eo.2 hpl);have hm:QfS its p=true:=by unfold QfS;rw[hp]
  have hb:Nat.beq p i=false:=by cases hb:Nat.beq p i with
   | true=>exact absurd (Yj hb) hne
   | false=>rfl
  rw[hm,hb,hi]at h2;simp only[JD,SZ]at h2;have h3:(bif Nat.ble (p+1) i then FD ops 8 p i else FD ops 8 i p)=true:=by
   cases it with
   | add x fl nf=>cases fl with
    | true=>cases nf with
     | false=>exact absurd rfl (hnf x)
     | true=>exact h2
    | false=>exact h2
   | tn M=>exact h2
  refine⟨λh=>?_,λh=>?_⟩
  ·rw[show Nat.ble (p+1) i=true from MS h]at h3;exact h3
  have:Nat.ble (p+1) i=false:=by cases hc:Nat.ble (p+1) i with
   | true=>have:=Jl hc;omega
   | false=>rfl
  rw[this]at h3;exact h3
 have sets:∀(i p:Nat) (x:DF) (fl nf:Bool) (M:Yr),its[i]? = X (.add x fl nf)->its[p]? = X (.tn M)->x.ob.isSome=true->x.d∈M.sets.map Prod.fst->FD ops 8 i p=true:=by
  intro i p x fl nf M hi hp hob hmem;have hil:=(QX.1 hi).1;have hpl:=(QX.1 hp).1;unfold QsT at hsv;rw[XJ]at hsv;have h1:=hsv i (Eo.2 hil);rw[XJ]at h1;have h2:=h1 p (Eo.2 hpl);rw[hi,hp]at h2;dsimp only at h2;rw[MW.2 hmem]at h2;have:x.ob.isNone=false:=by cases hx:x.ob with
   | none=>rw[hx]at hob;cases hob
   | some=>rfl
  rw[this]at h2;simpa using h2
 have memSets:∀{ms:L_ Yr} {d:Nat},d∈QqT ms->∃(c:Nat) (M:Yr),ms[c]? = X M/\d∈M.sets.map Prod.fst:=by
  intro ms
  induction ms with
  | nil=>intro d h;cases h
  | cons N ms ih=>
   intro d h;rcases XU.1 h with h | h
   ·exact⟨0,N,rfl,h⟩
   obtain⟨c,M,h1,h2⟩:=ih h;exact⟨c+1,M,by simpa using h1,h2⟩
 have all:∀{l:L_ It} {ms:L_ Yr},Na ms l=true->∀{q:Nat} {y:DF} {nf:Bool},l[q]? = X (.add y true nf)->ms.all (Qqu y)=true:=by
  intro l
  induction l with
  | nil=>intro ms _ q y nf h;simp at h
  | cons it l ih=>
   intro ms h q y nf hq;cases it with
   | add z f g=>
    rw[Na,QJ]at h;cases q with
    | zero=>simp at hq;obtain⟨rfl,rfl,rfl⟩:=hq;simpa using h.1
    | succ q=>exact ih h.2 (by simpa using hq)
   | tn M=>
    cases q with
    | zero=>simp at hq
    | succ q=>exact ih h (by simpa using hq)
 have lst:Na (Xq its) its=true\/(Na ((Xq its).take ((Xq its).length-1)) its=true/\(∃M,its[its.length-1]? = X (.tn M)/\j0 its (its.length-1)+1=(Xq its).length)/\∀i,i<its.length-1->FD ops 8 i (its.length-1)=true):=by
  unfold Qod at hfk;rw[KW,QJ]at hfk;refine hfk.imp_right λh=>⟨h.1,?_⟩;have h2:=h.2;unfold QxG at h2;rw[QJ,XJ]at h2;obtain⟨p1,p2⟩:=h2;refine⟨?_,λi hi=>p2 i (Eo.2 hi)⟩;unfold QfS at p1;split at p1
  ·rename_i M hM;refine⟨M,hM,?_⟩;have h3:=Qud hM;have hl:=(QX.1 hM).1;have h4:j0 its its.length=(Xq its).length:=by unfold j0;rw[UG]
   rw[show its.length-1+1=its.length by omega]at h3;omega
  cases p1
 refine AK.regionInv (Qze base its) hmix ?_ hord ?_ ?_
 ·intro O σ i o hs hd hi ho ⟨j,hj,hmu,hsub,hadd⟩;obtain⟨o',ho',hl,hdeps⟩:=(SM hs).1 hi;rw[ho]at ho';cases ho';have hio:i<ops.size:=(AX.1 ho).1;have hil:i<its.length:=by omega
  have hin:i<O.size:=by omega
  obtain⟨it,hit⟩:∃it,its[i]? = X it:=⟨_,Qp hil⟩;have hnl:O[i]? ≠ X true:=by rw[hl];simp
  have hst:=steps i o it ho hit;have depsL:∀{q:Nat},OW o q=true->O[q]? = X true:=λhdep=>by
   simp only[OW,EX,QJ]at hdep;obtain⟨e,he,hb,hon⟩:=hdep;have:=hdeps e (Qj7.1 he) hb;rwa[Yj hon]at this
  have stage:(∀x,it≠.add x true false)->j=j0 its i:=by
   intro hnf;apply Nat.le_antisymm
   ·rcases Wf (j0 its i) j with hlt | h
    ·obtain⟨p,M,hp,hpj⟩:=QiJ (its:=its) (c:=j0 its i) (by omega);have hpl:O[p]? = X true:=(hmu p M hp).2 (by omega);rcases Nat.lt_trichotomy p i with h | h | h
     ·have:=QsW hp h;omega
     ·subst h;exact absurd hpl hnl
     have hm:=(ord i p it M hit hp (by omega) hnf).2 h;exact absurd (FU hd 8 hm hpl) hnl
    exact h
   rcases Nat.eq_zero_or_pos (j0 its i)with h | h
   ·omega
   have hle:j0 its i<=(Xq its).length:=by
    have h1:=Qmf (its:=its) (show i<=its.length by omega);have h2:j0 its its.length=(Xq its).length:=by unfold j0;rw[UG]
    omega
   obtain⟨p,M,hp,hpj⟩:=QiJ (its:=its) (c:=j0 its i-1) (by omega);have hpi:p<i:=by
    rcases Nat.lt_trichotomy p i with h' | h' | h'
    ·exact h'
    ·subst h';omega
    have:=Qmf (its:=its) (Nat.le_of_lt h');omega
   have hm:=(ord i p it M hit hp (by omega) hnf).1 hpi;have:=(hmu p M hp).1 (Qj0 hs hd hm hi);omega
  have setL:∀q,(O.setIfInBounds i true)[q]? = X true↔q=i\/O[q]? = X true:=λq=>by
   by_cases e:i=q
   ·subst e;simp[Qej,hin]
   rw[Qqx e];simp[Ne.symm e]
  cases it with
  | tn M=>
   have hjj:=stage λx e=>by cases e
   subst hjj;have hM:=QsU hit;have hos:Kd P C ops o σ (M.run σ):=hst σ hsub λq y fl nf hq hdep=>(hadd q y fl nf hq).1 (depsL hdep);have flt:∀{q:Nat} {y:DF} {fl nf:Bool},fl=true->O[q]? = X true->its[q]? = X (.add y fl nf)->Na (Xq its) its=true\/j0 its i+1<(Xq its).length->QfH (M.run σ) y:=by
    intro q y fl nf hfl hql hq hz;subst hfl;have h1:=(hadd q y true nf hq).2.2 rfl hql (hz.imp_right λh=>by omega);refine QsV ?_ h1;rcases lst with h | ⟨h,_,_⟩
    ·exact XJ.1 (all h hq) M (Xt hM.1)
    rcases hz with hz | hz
    ·exact XJ.1 (all hz hq) M (Xt hM.1)
    refine XJ.1 (all h hq) M (Xt (i:=j0 its i) ?_);rw[List.getElem?_take_of_lt (by omega)];exact hM.1
   refine⟨_,hos,j0 its i+1,by have:=QqV hit;omega,λp M' hp=>?_,?_,λq y fl nf hq=>⟨λhql=>?_,λhql hob=>?_,λhfl hql hz=>?_⟩⟩
   ·rw[setL];constructor
    ·rintro (rfl | h)
     ·omega
     have:=(hmu p M' hp).1 h;omega
    intro h;rcases Wf (j0 its p) (j0 its i)with h1 | h1
    ·exact .inr ((hmu p M' hp).2 h1)
    left;rcases Nat.lt_trichotomy p i with h' | h' | h'
    ·have:=QsW hp h';omega
    ·exact h'
    have:=QsW hit h';omega
   ·rw[hM.2,Qme];exact hsub.run M
   ·rcases(setL q).1 hql with rfl | hql
    ·rw[hit]at hq;cases hq
    rcases Wf (j0 its i) (j0 its q)with hlt | hle
    ·cases fl with
     | true=>
      refine Tp.of (flt rfl hql hq ?_);rcases lst with h | ⟨_,⟨M',hp,hpj⟩,_⟩
      ·exact .inl h
      right;have hqi:q<=its.length-1:=by have:=(QX.1 hq).1;omega
      have:=Qmf (its:=its) hqi;omega
     | false=>
      exfalso;have hiq:i<q:=by
       rcases Wf i q with h | h
       ·exact h
       have:=Qmf (its:=its) h;omega
      have hm:=(ord q i _ M hq hit (by omega) (λx e=>by cases e)).1 hiq;exact absurd (FU hd 8 hm hql) hnl
    rw[hM.2,List.drop_append_of_le_length (by simp;have:=QqV hit;omega)];exact((hadd q y fl nf hq).1 hql).run
   ·have hqi:q≠i:=λe=>by subst e;rw[hit]at hq;cases hq
    have hql':O[q]? ≠ X true:=λh=>hql ((setL q).2 (.inr h));refine Yr.none_look ?_ ((hadd q y fl nf hq).2.1 hql' hob);rw[XJ];intro r hr;cases hb:Nat.beq r.1 y.d with
    | false=>rfl
    | true=>
     have hm:=sets q i y fl nf M hq hit hob (by rw[<-Yj hb];exact List.mem_map_of_mem hr);exact absurd (Qj0 hs hd hm hi) hql'
   refine flt hfl ((setL q).1 hql |>.resolve_left λe=>by subst e;rw[hit]at hq;cases hq) hq hz
  | add x fl nf=>
   have hfresh:x.ob.isSome=true->look σ.hp x.d=none:=(hadd i x fl nf hit).2.1 hnl;have hos:Kd P C ops o σ (σ.addF x):=by
    have hB:¬(fl=true/\nf=false)->(∀σ,Um σ (Tn base ((Xq its).take (j0 its i)))->(∀k y fl nf,its[k]? = X (.add y fl nf)->OW o k=true->Tp σ y fl (((Xq its).take (j0 its i)).drop (j0 its k)))->(x.ob.isSome=true->look σ.hp x.d=none)->Kd P C ops o σ (σ.addF x))->Kd P C ops o σ (σ.addF x):=λhne hst=>by
     have hjj:=stage λy e=>by cases e;exact hne ⟨rfl,rfl⟩
     subst hjj;exact hst σ hsub (λq y fl nf hq hdep=>(hadd q y fl nf hq).1 (depsL hdep)) hfresh
    cases fl with
    | true=>cases nf with
     | false=>
      have h1:Um base S:=hS;have hZ:Na (Xq its) its=true\/j<(Xq its).length:=by
       refine lst.imp_right λ⟨_,⟨M,hp,hpj⟩,hall⟩=>?_;rcases Wf j (Xq its).length with h | h
       ·exact h
       exfalso;have hpl:=(hmu _ M hp).2 (by omega);have hne:i≠its.length-1:=λe=>by rw[<-e,hit]at hp;cases hp
       exact absurd (FU hd 8 (hall i (by omega)) hpl) hnl
      have h2:Um (Tn base ((Xq its).take j)) S:=by
       unfold Qoe at hsk;rw[KW]at hsk;rcases hsk with hsk | hsk
       ·exact Um.stable hsk h1 j
       rw[QJ,EX]at hsk;obtain⟨hs1,p,_,hp⟩:=hsk;unfold endB at hp;simp only[QJ]at hp;obtain⟨⟨p1,p2⟩,p3⟩:=hp;have hjm:j<=(Xq its).length-1:=by
        rcases Wf ((Xq its).length-1) j with hlt | h
        ·exfalso;obtain⟨M,hM⟩:∃M,its[p]? = X (.tn M):=by
          unfold QfS at p1;split at p1
          ·exact⟨_,‹_›⟩
          cases p1
         have p2:=Yj p2;have hpl:=(hmu p M hM).2 (by omega);have h3:=XJ.1 p3 i (Eo.2 hil);have hf:QvN its i=true:=by unfold QvN;rw[hit]
         rw[hf]at h3;exact absurd (FU hd 8 h3 hpl) hnl
        exact h
       have h4:=Um.stable hs1 h1 j;rwa[List.take_take,IU hjm]at h4
      exact hst σ ⟨λt v h=>hsub.1 t v (h2.1 t v h),λp ob h=>hsub.2 p ob (h2.2 p ob h)⟩ (λq y nf hq hdep=>(hadd q y true nf hq).2.2 rfl (depsL hdep) hZ) hfresh
     | true=>exact hB (λe=>by cases e.2) hst
    | false=>exact hB (λe=>by cases e.1) hst
   obtain⟨hmd,hmo⟩:=QfU hit;have frK:∀t v,t≠x.d->look σ.fr t=X v->look (σ.addF x).fr t=X v:=by
    intro t v hne h;unfold St.addF;split
    ·show look ((x.d,x.v)::σ.fr) t=X v;rw[Qw _ _ (Ne.symm hne)];exact h
    show look ((x.d,x.v)::σ.fr) t=X v;rw[Qw _ _ (Ne.symm hne)];exact h
   have hpK:∀p,(p≠x.d\/x.ob=none)->look (σ.addF x).hp p=look σ.hp p:=by
    intro p hne;unfold St.addF;split
    ·rfl
    rename_i ob hob;rcases hne with hne | hne
    ·exact σ.look_set_other _ (Ne.symm hne)
    rw[hob]at hne;cases hne
   refine⟨_,hos,j,hj,λp M hp=>?_,⟨λt v h=>?_,λp ob h=>?_⟩,λq y fl' nf' hq=>⟨λhql=>?_,λhql hob=>?_,λhfl hql hz=>?_⟩⟩
   ·rw[setL,<-hmu p M hp];have:p≠i:=λe=>by subst e;rw[hit]at hp;cases hp
    simp[this]
   ·refine frK t v (λe=>?_) (hsub.1 t v h);subst e;have h1:=hd1 _ hmd;rcases QvM h with⟨u,hu⟩|h2
    ·rw[Qbz hu]at h1;cases h1.1
    rw[MW.2 (QrR h2)]at h1;cases h1.2
   ·have hne:p≠x.d\/x.ob=none:=by
     cases hob:x.ob with
     | none=>exact .inr rfl
     | some ob'=>
      refine .inl λe=>?_;subst e;have hob':x.ob.isSome=true:=by rw[hob];rfl
      have h1:=hd2 _ (hmo hob');rcases Quf h with⟨u,hu⟩|h2
      ·rw[Qbz hu]at h1;cases h1
      obtain⟨c,M,h3,h4⟩:=memSets h2;have hc:c<j:=by
       have:=(QX.1 h3).1;simp at this;omega
      have h3':(Xq its)[c]? = X M:=by rw[List.getElem?_take_of_lt hc]at h3;exact h3
      obtain⟨p',M',hp',hpc⟩:=QiJ (its:=its) (c:=c) (QX.1 h3').1;have h5:=(QsU hp').1;rw[hpc,h3']at h5;cases h5;have hm:=sets i p' x fl nf M hit hp' hob' h4;exact absurd (FU hd 8 hm ((hmu p' M hp').2 (by omega))) hnl
    rw[hpK p hne];exact hsub.2 p ob h
   ·by_cases e:q=i
    ·subst e;rw[hit]at hq;cases hq;refine Tp.of ⟨?_,λob hob=>?_⟩
     ·unfold St.addF;split<;>exact QB _ _ _
     unfold St.addF;rw[hob];exact QB _ _ _
    have hql':O[q]? = X true:=((setL q).1 hql).resolve_left e;obtain⟨h1,h2⟩:=(hadd q y fl' nf' hq).1 hql';have hne:y.d≠x.d:=λh=>e (Qka hnd hq hit h);exact⟨λhal=>frK _ _ hne (h1 hal),λhal ob hob=>by rw[hpK _ (.inl hne)];exact h2 hal ob hob⟩
   ·have e:q≠i:=λe=>hql ((setL q).2 (.inl e));have hql':O[q]? ≠ X true:=λh=>hql ((setL q).2 (.inr h));have hne:y.d≠x.d:=λh=>e (Qka hnd hq hit h);rw[hpK _ (.inl hne)];exact(hadd q y fl' nf' hq).2.1 hql' hob
   by_cases e:q=i
   ·subst e;rw[hit]at hq;cases hq;refine⟨?_,λob hob=>?_⟩
    ·unfold St.addF;split<;>exact QB _ _ _
    unfold St.addF;rw[hob];exact QB _ _ _
   have hql':O[q]? = X true:=((setL q).1 hql).resolve_left e;obtain⟨h1,h2⟩:=(hadd q y fl' nf' hq).2.2 hfl hql' hz;have hne:y.d≠x.d:=λh=>e (Qka hnd hq hit h);exact⟨frK _ _ hne h1,λob hob=>by rw[hpK _ (.inl hne)];exact h2 ob hob⟩
 ·refine⟨0,MU _,λp M _=>by simp[Array.getElem?_replicate],⟨λ_ _ h=>h,λ_ _ h=>h⟩,λi x fl nf hi=>⟨λh=>by simp[Array.getElem?_replicate]at h,λ_ hob=>?_,λ_ h=>by simp[Array.getElem?_replicate]at h⟩⟩;have h1:=hd2 _ ((QfU hi).2 hob);cases h:look base.hp x.d with
  | none=>rfl
  | some ob=>rw[Qbz h]at h1;cases h1
 intro O σ hs hall ⟨j,hj,hmu,hsub,hadd⟩;have hjt:j=(Xq its).length:=by
  rcases Wf j (Xq its).length with h | h
  ·obtain⟨p,M,hp,hpj⟩:=QiJ (its:=its) h;have:=(hmu p M hp).1 (hall p (by have:=(QX.1 hp).1;omega));omega
  omega
 subst hjt;rw[UG]at hsub;refine k σ hsub λi x fl nf hi=>?_;have:=(hadd i x fl nf hi).1 (hall i (by have:=(QX.1 hi).1;omega));rwa[UG]at this
end
inductive MD where
 | s
 | st (r:List V) (rs:List (List V))
 | app (rs:List (List V)) (m:Nat)
 | any (M:Yr)
 | cm (en:Ent) (M N:List (Nat×Nat)) (dead:List Nat) (ms:List Mode) (outs:List (Nat×Ob)) (r:V) (same:List Nat)
inductive Dw where
 | a (h:Db) (sv:Option (List (Option Nat)×V)) (fl:Bool) (nf:Bool:=false)
 | m (md:MD)
def QvO (P:Program)(T:UI)(f:Operand->O_ V)(hp:Nat->O_ Ob)(c:Call):Ent->O_ (Nat×L_ V×Prop)
 | .fn=>match c.callee with
  | .value (.func g)=>bif XK T.en g then match evs f c.args.toList with
   | some vs=>X (g,vs,True)
   | none=>none
   else none
  | _=>none
 | .clo=>match c.callee with
  | .value x=>match f x with
   | some (.clo (.func g) fs h)=>bif XK T.en g then match evs f c.args.toList with
    | some vs=>X (g,fs++(vs++h),True)
    | none=>none
    else none
   | _=>none
  | _=>none
 | .me g=>match c.callee with
  | .invoke x name=>match f x with
   | some (.ifc t u)=>bif XK T.en g then match evs f c.args.toList with
    | some vs=>X (g,u::vs,(BA P t name=X (g,true)/\Qj8 P t=true)\/(BA P t name=X (g,false)/\QbA P t=true))
    | none=>none
    else none
   | _=>none
  | _=>none
 | .mv g e=>match c.callee with
  | .invoke x name=>match f x with
   | some (.ifc t (.loc b 0 off))=>match hp b with
    | some (.var h)=>match h[off]? with
     | some r=>bif XK T.en g then match evs f c.args.toList with
      | some vs=>X (g,r::vs,BA P t name=X (g,false)/\Qdg P t e=true/\Ap P e=X false)
      | none=>none
      else none
     | none=>none
    | _=>none
   | _=>none
  | _=>none
def QsX {P:Program}{C:Xr}{T:UI}{f:Operand->O_ V}{hp:Nat->O_ Ob}{o:Oper}{c:Call}{en:Ent}{g:Nat}{vs:L_ V}{ψ:Prop}{σ:St}(ok:Gw P T)(ho:o.op=.call c)(e:QvO P T f hp c en=X (g,vs,ψ))(hφ:ψ)
  (h1:∀x u,f x=X u->σ.opd x=X u) (h2:∀b u,hp b=X u->look σ.hp b=X u):JG P C o σ g vs:=by
 obtain⟨ce,ags,ts⟩:=c;unfold QvO at e;split at e
 ·split at e
  ·rename_i f' h;dsimp only at h;subst h;replace e:=Yd e;obtain⟨O,e⟩:=e;split at e
   ·rename_i vs' hv;cases e;exact JG.fn ho (ok.en O) (AY h1 hv)
   cases e
  cases e
 ·split at e
  ·rename_i x h;dsimp only at h;subst h;split at e
   ·rename_i f' fs cs hx;replace e:=Yd e;obtain⟨O,e⟩:=e;split at e
    ·rename_i vs' hv;cases e;exact JG.clo ho (h1 _ _ hx) (ok.en O) (AY h1 hv)
    cases e
   cases e
  cases e
 ·split at e
  ·rename_i x name h;dsimp only at h;subst h;split at e
   ·rename_i t u hx;replace e:=Yd e;obtain⟨O,e⟩:=e;split at e
    ·rename_i vs' hv;cases e;exact JG.meth (r:=u) ho (h1 _ _ hx) hφ (ok.en O) (AY h1 hv)
    cases e
   cases e
  cases e
 split at e
 ·rename_i x name h;dsimp only at h;subst h;split at e
  ·rename_i t b off hx;split at e
   ·rename_i cs hb;split at e
    ·rename_i r hr0;replace e:=Yd e;obtain⟨O,e⟩:=e;split at e
     ·rename_i vs' hv;cases e;exact JG.methV ho (h1 _ _ hx) hφ.1 hφ.2.1 hφ.2.2 (h2 _ _ hb) hr0 (ok.en O) (AY h1 hv)
     cases e
    cases e
   cases e
  cases e
 cases e
def Qug {bk:Nat->O_ Nat}{hp hp':Nat->O_ Ob}(h:∀b u,hp b=X u->hp' b=X u):∀{M:L_ (Nat×Nat)} {l:H_},LE bk hp M=X l->LE bk hp' M=X l:=by
 intro M
 induction M with
 | nil=>intro l e;exact e
 | cons p M ih=>
  obtain⟨d,s⟩:=p;intro l e;rw[LE]at e ⊢;split at e
  ·rename_i ob hob;split at e
   ·rename_i ob' O;split at e
    ·rename_i l' hl;simp only[h _ _ hob,O,ih hl];exact e
    cases e
   cases e
  cases e
def QsY {σ:St}{M N:L_ (Nat×Nat)}{dead:L_ Nat}{outs:H_}(h:Er ⟨[],N.map λp=>(p.1,Ob.itr0)⟩ M N dead outs=true):Er σ M N dead outs=true:=by
 simp only[Er,QJ,XJ]at h ⊢;obtain⟨⟨h1,h2⟩,O⟩:=h;refine⟨⟨h1,h2⟩,λp hp=>⟨⟨?_,(O p hp).1.2⟩,(O p hp).2⟩⟩;have hn:∀{l:L_ (Nat×Nat)},p∈l->(look (l.map λp=>(p.1,Ob.itr0)) p.1).isNone=false:=by
  intro l hp
  induction l with
  | nil=>cases hp
  | cons q l ih=>
   show(look ((q.1,Ob.itr0)::l.map λp=>(p.1,Ob.itr0)) p.1).isNone=false;by_cases e:q.1=p.1
   ·rw[e,QB];rfl
   rw[Qw _ _ e];refine ih ?_;rcases XV.1 hp with h | h
   ·exact absurd (congrArg Prod.fst h).symm e
   exact h
 have h4:=(O p hp).1.1;rw[hn hp,Ta]at h4;rw[h4];rfl
def QfV {σ:St}(dead:L_ Nat):∀(l:H_),(σ.killL dead).sets l=σ.after dead l:=by
 intro l
 induction l with
 | nil=>rfl
 | cons p l h=>rw[St.sets,h];rfl
def QsZ (hp:Nat->O_ Ob)(h:H_):L_ Nat->Prop
 | []=>True
 | b::r=>hp b=look h b/\QsZ hp h r
def Quh {hp:Nat->O_ Ob}{O:H_}:∀{l:L_ Nat},QsZ hp O l->∀b,XK l b=true->hp b=look O b:=by
 intro l
 induction l with
 | nil=>intro _ b h;cases h
 | cons a l ih=>
  intro h b hb;rw[XK]at hb;cases e:Nat.beq a b with
  | true=>rw[<-Yj e];exact h.1
  | false=>rw[e]at hb;exact ih h.2 b (by simpa using hb)
def QrS {O:L_ Nat}:∀{l:H_} {b:Nat},look (l.filter λp=>!(XK O p.1)) b=if XK O b=true then none else look l b:=by
 intro l
 induction l with
 | nil=>intro b;simp[look]
 | cons p l ih=>
  intro b;rw[Bx];by_cases e:p.1=b
  ·subst e;cases h:XK O p.1 with
   | true=>
    simp only[JD,Bool.false_eq_true,if_false];rw[ih,h];simp
   | false=>
    simp only[PY,if_true,Bool.false_eq_true,if_false];obtain⟨k,v⟩:=p;rw[QB,QB]
  cases h:XK O p.1 with
  | true=>
   simp only[JD,Bool.false_eq_true,if_false];rw[ih,Qw (k:=p.1) p.2 l e]
  | false=>
   simp only[PY,if_true];rw[Qw (k:=p.1) p.2 _ e,ih,Qw (k:=p.1) p.2 l e]
def R.congrHp {C:Xr}{σ σ':St}(hf:σ'.fr=σ.fr)(O:∀o,look σ'.hp o=look σ.hp o){a:Act}{w:World}(hR:R C σ a w):R C σ' a w:=by
 obtain⟨φ,h⟩:=hR;exact⟨φ,h.os,h.tape,h.output,h.size,h.kept,h.inj,λo B hB=>by rw[O];exact h.dom o B hB,h.lt,h.new,⟨h.stay.1,λo ob B h1 h2 h3=>h.stay.2 o ob B h1 (by rw[<-O];exact h2) h3⟩,h.tmps,h.defers,λt v hv=>h.frame t v (by rw[<-hf];exact hv),λo ob hob=>h.heap o ob (by rw[<-O];exact hob)⟩
def mu1 (P:Program)(C:Xr)(T:UI)(n:Nat)(md:MD)(o:Oper)(f:Operand->O_ V)(hp:Nat->O_ Ob):O_ (Yr×O_ Prop):=match md with
 | .cm en M N dead ms outs r O=>match o.dst with
  | some d=>match o.op with
   | .call c=>bif Er ⟨[],N.map λp=>(p.1,Ob.itr0)⟩ M N dead outs&&FR (M.map Prod.fst)&&FR (N.map Prod.fst)&&Nat.ble (d+1) n then match QvO P T f hp c en with
    | some (g,vs,ψ)=>match Tk (EW M) ms vs with
     | some us=>match LE (EW M) hp M with
      | some hsC=>match LE (EW N) (look outs) N with
       | some hsN=>match trV (EW N) r with
        | some r'=>match O with
         | []=>X (⟨dead,hsN,X (d,r')⟩,X (ψ/\QN P g us hsC (Gives r outs)))
         | _=>match dead with
          | []=>X (⟨[],hsN.filter (λp=>!(XK O p.1)),X (d,r')⟩,X ((ψ/\QN P g us hsC (Gives r outs))/\QsZ hp hsN O))
          | _=>none
        | none=>none
       | none=>none
      | none=>none
     | none=>none
    | none=>none
    else none
   | _=>none
  | none=>none
 | .any M=>X (M,X (∀σ:St,(∀x u,f x=X u->σ.opd x=X u)->(∀b u,hp b=X u->look σ.hp b=X u)->Stp P C o σ (M.run σ)))
 | .s=>match o.dst with
  | some d=>match o.op with
   | .assign x=>match f x with
    | some v=>bif Nat.ble (d+1) n then X (⟨[],[],X (d,v)⟩,none)else none
    | none=>none
   | .move x=>match f x with
    | some v=>bif Nat.ble (d+1) n then X (⟨[],[],X (d,v)⟩,none)else none
    | none=>none
   | _=>none
  | none=>match o.op with
   | .store Tx x y=>match f x with
    | some (.loc b i off)=>match f y with
     | some v=>match hp b with
      | some (.var cs)=>match i with
       | 0=>match look T.sz Tx with
        | some k=>bif v.isV&&Nat.beq v.cells.length k&&v.cells.all V.one&&Nat.ble (off+k) cs.length then X (⟨[],[(b,.var (Wv cs off v.cells))],none⟩,none)else none
        | none=>none
       | _=>none
      | _=>none
     | none=>none
    | _=>none
   | _=>none
 | .st r h=>match o.dst with
  | some _=>none
  | none=>match o.op with
   | .store Tx x y=>match f x with
    | some (.loc b i off)=>match f y with
     | some v=>match hp b with
      | some (.arr z rs)=>match look T.sz Tx with
       | some k=>bif v.isV&&Nat.beq v.cells.length k&&v.cells.all V.one&&v.cells.all V.dat&&Nat.ble (off+k) z then X (⟨[],[(b,.arr z h)],none⟩,X (rs[i]? = X r/\rs.set i (Wv r off v.cells)=h))else none
       | none=>none
      | _=>none
     | none=>none
    | _=>none
   | _=>none
 | .app h m=>match o.dst with
  | some d=>match o.op with
   | .call c=>match c.callee with
    | .builtin .append=>match c.args.toList with
     | [x,y]=>match c.argTypes.toList with
      | [Tx,Ty]=>match f x with
       | some (.own b k)=>match f y with
        | some v=>match hp b with
         | some (.arr z rs)=>match look T.es Tx with
          | some (e,z',by_)=>match look T.zv e with
           | some zs=>bif (look T.es Ty).isSome&&Nat.ble (d+1) n&&!(Nat.ble 621 b)&&Nat.beq z z'&&Nat.beq zs.length z&&!(Nat.beq z 0)&&Nat.ble by_ 32768 then match v with
            | .sl z'' us=>bif Nat.beq z z'' then X (⟨[b],[(b,.arr z h)],X (d,.own b m)⟩,X (rs.length=k/\decide (k+us.length<=4294967296)=true/\rs++us=h/\k+us.length=m))else none
            | _=>none
            else none
           | none=>none
          | none=>none
         | _=>none
        | none=>none
       | _=>none
      | _=>none
     | _=>none
    | _=>none
   | _=>none
  | none=>none
def ZB (obj:Bool)(o:Oper)(t:Nat)(fo:Bool)(ms:L_ Yr):L_ (It×Nat)->Nat->O_ DF
 | (.add x fl _,j)::r,i+1=>bif Nat.beq x.d t&&OW o i&&(bif fo then fl else bif obj then Qen x fl (ms.drop j)else alv x fl (ms.drop j))then X x else ZB obj o t fo ms r i
 | (.tn _,_)::r,i+1=>ZB obj o t fo ms r i
 | _,_=>none
def QbH (B:St)(fo:Bool)(ms:L_ Yr)(h:L_ (It×Nat))(i:Nat)(o:Oper):Operand->O_ V
 | .tmp t=>match look B.fr t with
  | some v=>X v
  | none=>match ZB false o t fo ms h i with
   | some x=>X x.v
   | none=>none
 | x=>B.opd x
def QfW (B:St)(fo:Bool)(ms:L_ Yr)(h:L_ (It×Nat))(i:Nat)(o:Oper)(b:Nat):O_ Ob:=match look B.hp b with
 | some ob=>X ob
 | none=>match ZB true o b fo ms h i with
  | some x=>x.ob
  | none=>none
structure Dr where
 ri:List (It×Nat)
 ms:List Yr
 B:St
 φ:Prop
def UY (P:Program)(C:Xr)(T:UI)(n:Nat)(ops:Array Oper)(S:St):L_ Dw->L_ Oper->Nat->L_ (It×Nat)->L_ Yr->St->Prop->O_ Dr
 | [],_,_,O,ms,B,φ=>X ⟨O,ms,B,φ⟩
 | .a h sv fl nf::ds,o::l,i,O,ms,B,φ=>match Av ops o (λt=>QbH (bif fl&&!nf then S else B) (fl&&!nf) ms O i o (.tmp t))with
  | some true=>match o.dst with
   | some d=>bif Nat.ble (d+1) n then match ev1 P C T h o d (QbH (bif fl&&!nf then S else B) (fl&&!nf) ms O i o) (QfW (bif fl&&!nf then S else B) (fl&&!nf) ms O i o)with
    | some ⟨v,ob,q⟩=>match sv with
     | none=>UY P C T n ops S ds l (i+1) ((.add ⟨d,v,ob⟩ fl nf,ms.length)::O) ms B (QbC φ q)
     | some (mm,u)=>UY P C T n ops S ds l (i+1) ((.add ⟨d,u,ob⟩ fl nf,ms.length)::O) ms B (QbC φ q/\v.denil mm=u)
    | none=>none
    else none
   | none=>none
  | some false=>match o.dst with
   | some d=>bif Nat.ble (d+1) n then UY P C T n ops S ds l (i+1) ((.add ⟨d,.lit undef,none⟩ fl nf,ms.length)::O) ms B φ else none
   | none=>none
  | none=>none
 | .m md::ds,o::l,i,O,ms,B,φ=>match Av ops o (λt=>QbH B false ms O i o (.tmp t))with
  | some true=>match mu1 P C T n md o (QbH B false ms O i o) (QfW B false ms O i o)with
   | some (M,q)=>UY P C T n ops S ds l (i+1) ((.tn M,ms.length)::O) (ms++[M]) (M.run B) (QbC φ q)
   | none=>none
  | _=>none
 | _::_,[],_,_,_,_,_=>none
def YM (h:L_ (It×Nat)):L_ It:=(h.map Prod.fst).reverse
section
variable {P:Program}{C:Xr}{T:UI}{Q:Exit->St->Prop}{n:Nat}{ops:Array Oper}{base S:St}{ks:L_ Fr}
def Qpm {md:MD}{o:Oper}{f:Operand->O_ V}{hp:Nat->O_ Ob}{M:Yr}{q:O_ Prop}{σ:St}(ok:Gw P T)(hN:JF P C n)(e:mu1 P C T n md o f hp=X (M,q))(hq:match q with | none=>True | some p=>p)
  (h1:∀x u,f x=X u->σ.opd x=X u) (h2:∀b u,hp b=X u->look σ.hp b=X u):Stp P C o σ (M.run σ):=by
 have hn:=hN.n;have hpg:=hN.g;unfold mu1 at e;cases md with
 | any M0=>cases e;exact hq σ h1 h2
 | cm en M0 N dead ms outs r same=>
  dsimp only at e;split at e
  ·rename_i d hd;split at e
   ·rename_i c ho;replace e:=Yd e;obtain⟨O,e⟩:=e;simp only[QJ]at O;obtain⟨⟨⟨g1,g2⟩,g3⟩,g4⟩:=O;rw[<-hn]at g4;have g1:=QsY (σ:=σ) g1;have g2:=GK.1 g2;have g3:=GK.1 g3;have inj:MX M0=true/\MX N=true:=by
     simp only[Er,QJ]at g1;exact⟨g1.1.1.1,g1.1.1.2⟩
    have mM:∀a b,EW M0 a=X b->look M0 b=X a:=λa b h=>WH inj.1 (Lv h) g2;have mN:∀a b,EW N a=X b->look N b=X a:=λa b h=>WH inj.2 (Lv h) g3;split at e
    ·rename_i g vs ψ hent;split at e
     ·rename_i us hus;split at e
      ·rename_i hsC hC;split at e
       ·rename_i hsN hN;split at e
        ·rename_i r' hr;have call:ψ/\QN P g us hsC (Gives r outs)->Stp P C o σ ((σ.after dead hsN).put d r'):=λhq=>
          Stp.callM (g:=false) (QsX (C:=C) ok ho hent hq.1 h1 h2) hd g4 hpg g1 g2 (PF mM hus) (Ub mM (Qug h2 hC)) hq.2 (Ub mN hN) (SN mN hr)
         split at e
         ·cases e;unfold Yr.run;dsimp only;rw[QfV];exact call hq
         split at e
         ·cases e;obtain⟨hq1,hq2⟩:=hq;intro a w hR K Q hK;refine call hq1 a w hR K Q λa' w' hR'=>hK a' w' (R.congrHp ?_ (λo=>?_) hR')
          ·unfold Yr.run;dsimp only;rw[QfV];rfl
          unfold Yr.run;dsimp only;rw[QfV];show look (_++σ.hp) o=look (_++σ.hp) o;rw[AN,AN,QrS];by_cases hm:XK same o=true
          ·rw[if_pos hm];have:=Quh hq2 o hm;cases hl:look hsN o with
           | none=>rfl
           | some ob=>rw[hl]at this;exact h2 o ob this
          rw[if_neg hm]
         cases e
        cases e
       cases e
      cases e
     cases e
    cases e
   cases e
  cases e
 | s=>
  dsimp only at e;split at e
  ·rename_i d hd;split at e
   ·rename_i x ho;split at e
    ·rename_i v hv;replace e:=Yd e;obtain⟨O,e⟩:=e;rw[<-hn]at O;cases e;exact Stp.assign ho hd O (h1 _ _ hv)
    cases e
   ·rename_i x ho;split at e
    ·rename_i v hv;replace e:=Yd e;obtain⟨O,e⟩:=e;rw[<-hn]at O;cases e;exact Stp.move ho hd O (h1 _ _ hv)
    cases e
   cases e
  rename_i hd;split at e
  ·rename_i Tx x y ho;split at e
   ·rename_i b i off hx;split at e
    ·rename_i v hv;split at e
     ·rename_i cs hb;split at e
      ·split at e
       ·rename_i k hk;replace e:=Yd e;obtain⟨e2,e⟩:=e;cases e;simp only[QJ]at e2;obtain⟨⟨⟨a1,a2⟩,a3⟩,a4⟩:=e2;exact Stp.storeL ho hd (h1 _ _ hx) (h2 _ _ hb) (h1 _ _ hv) (V.isV_or a1) (ok.sz hk) (Yj a2) a3 a4 rfl
       cases e
      cases e
     cases e
    cases e
   cases e
  cases e
 | st r rs'=>
  dsimp only at e;split at e
  ·cases e
  rename_i hd;split at e
  ·rename_i Tx x y ho;split at e
   ·rename_i b i off hx;split at e
    ·rename_i v hv;split at e
     ·rename_i z rs hb;split at e
      ·rename_i k hk;replace e:=Yd e;obtain⟨e2,e⟩:=e;cases e;simp only[QJ]at e2;obtain⟨⟨⟨⟨a1,a2⟩,a3⟩,a4⟩,a5⟩:=e2;exact Stp.storeA ho hd (h1 _ _ hx) (h2 _ _ hb) hq.1 (h1 _ _ hv) (V.isV_or a1) (ok.sz hk) (Yj a2) a3 a4 a5 hq.2
      cases e
     cases e
    cases e
   cases e
  cases e
 | app rs' m=>
  dsimp only at e;split at e
  ·rename_i d hd;split at e
   ·rename_i c ho;obtain⟨ce,ags,ts⟩:=c;split at e
    ·rename_i hce;dsimp only at hce e;subst hce;split at e
     ·rename_i x y hxy;split at e
      ·rename_i Tx Ty hT;split at e
       ·rename_i b k hx;split at e
        ·rename_i v hv;split at e
         ·rename_i z rs hb;split at e
          ·rename_i et z' by_ hes;split at e
           ·rename_i zs hz;replace e:=Yd e;obtain⟨O,e⟩:=e;simp only[QJ,An]at O;obtain⟨⟨⟨⟨⟨⟨a1,a2⟩,a3⟩,a4⟩,a5⟩,a6⟩,a7⟩:=O;have a4:=Yj a4;subst a4;have a5:=Yj a5;have a6:z≠0:=λh0=>by rw[h0]at a6;cases a6
            rw[<-hn]at a2;obtain⟨⟨e2,z2,by2⟩,hU⟩:∃q,Yy P Ty=X q:=by
             cases hl:look T.es Ty with
             | none=>rw[hl]at a1;cases a1
             | some q=>exact⟨q,ok.es hl⟩
            have ea:ags=#[x,y]:=by rw[<-Qc8 (xs:=ags),hxy]
            have et:ts=#[Tx,Ty]:=by rw[<-Qc8 (xs:=ts),hT]
            subst ea;subst et;split at e
            ·rename_i z'' us;replace e:=Yd e;obtain⟨e3,e⟩:=e;have:=Yj e3;subst this;cases e;obtain⟨h4,h5,h6,h7⟩:=hq;exact Stp.appS ho hd a2 (h1 _ _ hx) (h2 _ _ hb) a3 h4 (ok.es hes) hU (ok.zv hz) a5 a6 a7 h5 (h1 _ _ hv) h6 h7
            cases e
           cases e
          cases e
         cases e
        cases e
       cases e
      cases e
     cases e
    cases e
   cases e
  cases e
def Qhw {obj:Bool}{o:Oper}{t:Nat}{fo:Bool}{ms:L_ Yr}:∀{O:L_ (It×Nat)} {i:Nat} {x:DF},i=O.length->ZB obj o t fo ms O i=X x->
  ∃k fl nf j,O.reverse[k]? = X (.add x fl nf,j)/\OW o k=true/\x.d=t/\(bif fo then fl else bif obj then Qen x fl (ms.drop j)else alv x fl (ms.drop j))=true:=by
 intro O
 induction O with
 | nil=>intro i x hi h;subst hi;cases h
 | cons y O ih=>
  intro i x hi h;subst hi;have up:∀{x:DF},(∃k fl nf j,O.reverse[k]? = X (.add x fl nf,j)/\OW o k=true/\x.d=t/\(bif fo then fl else bif obj then Qen x fl (ms.drop j)else alv x fl (ms.drop j))=true)->∃k fl nf j,(y::O).reverse[k]? = X (.add x fl nf,j)/\OW o k=true/\x.d=t/\(bif fo then fl else bif obj then Qen x fl (ms.drop j)else alv x fl (ms.drop j))=true:=by
   rintro x ⟨k,fl,nf,j,h1,h2⟩;refine⟨k,fl,nf,j,?_,h2⟩;rw[List.reverse_cons,Jo (QX.1 h1).1];exact h1
  obtain⟨it,j⟩:=y;cases it with
  | tn M=>rw[We,ZB]at h;exact up (ih rfl h)
  | add z fl nf=>
   rw[We,ZB]at h;cases hb:(Nat.beq z.d t&&OW o O.length&&(bif fo then fl else bif obj then Qen z fl (ms.drop j)else alv z fl (ms.drop j)))with
   | true=>
    rw[hb]at h;cases h;simp only[QJ]at hb;exact⟨O.length,fl,nf,j,by simp,hb.1.2,Yj hb.1.1,hb.2⟩
   | false=>rw[hb]at h;exact up (ih rfl h)
def QfX {o:Oper}{f:Nat->O_ V}{σ:St}{b:Bool}(h:Av ops o f=X b)(hx:∀t u,f t=X u->look σ.fr t=X u):Av ops o (look σ.fr)=X b:=by
 unfold Av at h ⊢;cases hg:o.guard with
 | none=>simp only[hg]at h ⊢;exact h
 | some p=>
  obtain⟨j,t⟩:=p;simp only[hg]at h ⊢;cases hj:ops[j]? with
  | none=>simp only[hj]at h;cases h
  | some oj=>
   simp only[hj]at h ⊢;cases hd:oj.dst with
   | none=>simp only[hd]at h;cases h
   | some d=>
    simp only[hd]at h ⊢;cases O:f d with
    | none=>simp only[O]at h;cases h
    | some v=>
     have:=hx d v O;simp only[O]at h;simp only[this];exact h
def Kd.want {o:Oper}{σ σ':St}(h:Av ops o (look σ.fr)=X true)(hs:Stp P C o σ σ'):Kd P C ops o σ σ':=by
 rcases ZW h with⟨hg,_⟩|⟨j,t,d',hg,hj,⟨u,hu,O⟩|⟨_,O⟩⟩
 ·exact Kd.run hg hs
 ·exact Kd.runG hg hj hu (by simpa using O.symm) hs
 cases O
def Kd.unwant {o:Oper}{σ:St}{d:Nat}(h:Av ops o (look σ.fr)=X false)(hd:o.dst=X d)(hn:B_ d C):Kd P C ops o σ (σ.put d (.lit undef)):=by
 rcases ZW h with⟨_,O⟩|⟨j,t,d',hg,hj,⟨u,hu,O⟩|⟨hu,_⟩⟩
 ·cases O
 ·have:u=!t:=by cases u<;>cases t<;>first | rfl | cases O
  exact Kd.pass hg hj hu this hd hn
 exact Kd.passU hg hj hu hd hn
def Qof (ok:Gw P T)(hN:JF P C n){D:Dr}:∀(ds:L_ Dw) {l:L_ Oper} {i:Nat} {ri:L_ (It×Nat)} {ms:L_ Yr} {B:St} {φ:Prop},UY P C T n ops S ds l i ri ms B φ=X D->i=ri.length->l=ops.toList.drop i->ms=Xq (YM ri)->B=Tn base ms->
  (∀k it j,ri.reverse[k]? = X (it,j)->j=j0 (YM ri) k)->D.φ->
  φ/\D.ri.length=i+ds.length/\(∃r,YM D.ri=YM ri++r)/\D.ms=Xq (YM D.ri)/\D.B=Tn base D.ms/\(∀k it j,D.ri.reverse[k]? = X (it,j)->j=j0 (YM D.ri) k)/\
   ∀k o it,i<=k->ops[k]? = X o->(YM D.ri)[k]? = X it->QeO P C ops base S (YM D.ri) k o it:=by
 have hn:=hN.n;intro ds
 induction ds with
 | nil=>
  intro l i ri ms B φ h hi hl hms hB hj hφ;cases h;refine⟨hφ,by simp[hi],⟨[],by simp⟩,hms,hB,hj,λk o it hk ho hit=>?_⟩;have:=(QX.1 hit).1;simp[YM]at this;omega
 | cons d ds ih=>
  intro l i ri ms B φ h hi hl hms hB hj hφ;cases l with
  | nil=>cases d<;>cases h
  | cons o l=>
   have ho:ops[i]? = X o:=by
    have:=congrArg (λx=>x[0]?) hl;simpa using this.symm
   have hl':l=ops.toList.drop (i+1):=by
    have:=congrArg List.tail hl;simpa using this
   have hlen:(YM ri).length=i:=by simp[YM,hi]
   have grow:∀(it:It) (φ0:Prop) (ms':L_ Yr) (B':St),ms'=Xq (YM ri++[it])->B'=Tn base ms'->UY P C T n ops S ds l (i+1) ((it,ms.length)::ri) ms' B' φ0=X D->
     (φ0->φ/\∀its:L_ It,(∃r,its=YM ri++(it::r))->QeO P C ops base S its i o it)->
     φ/\D.ri.length=i+(ds.length+1)/\(∃r,YM D.ri=YM ri++r)/\D.ms=Xq (YM D.ri)/\D.B=Tn base D.ms/\(∀k it j,D.ri.reverse[k]? = X (it,j)->j=j0 (YM D.ri) k)/\
      ∀k o it,i<=k->ops[k]? = X o->(YM D.ri)[k]? = X it->QeO P C ops base S (YM D.ri) k o it:=by
    intro it φ0 ms' B' hms' hB' h hstep;have hio:YM ((it,ms.length)::ri)=YM ri++[it]:=by simp[YM]
    obtain⟨h1,h2,⟨r,h3⟩,h4,h5,h6,h7⟩:=ih h (by simp[hi]) hl' (by rw[hio];exact hms') hB' (λk it' j hk=>by
     rw[hio];rw[List.reverse_cons]at hk;by_cases hlt:k<ri.length
     ·rw[Jo (by simpa using hlt)]at hk;rw[hj k it' j hk];unfold j0;rw[QiD (by omega)]
     rw[Kn (by simp;omega)]at hk;have:k-ri.reverse.length=0:=by
      have:=(QX.1 hk).1;simpa using this
     rw[this]at hk;simp at hk;obtain⟨rfl,rfl⟩:=hk;have hk2:k=ri.length:=by simp at this;omega
     unfold j0;rw[QiD (by omega),hms,JE (by omega)]) hφ
    obtain⟨h8,h9⟩:=hstep h1;rw[hio,Dz]at h3;refine⟨h8,by omega,⟨_,h3⟩,h4,h5,h6,λk o' it' hk ho' hit=>?_⟩;rcases Wf i k with hlt | hge
    ·exact h7 k o' it' hlt ho' hit
    have:k=i:=by omega
    subst this;rw[ho]at ho';cases ho';have:(YM D.ri)[k]? = X it:=by rw[h3,Kn (by omega),hlen];simp
    rw[this]at hit;cases hit;exact h9 _ ⟨r,h3⟩
   have place:∀{its:L_ It} {it:It} {r:L_ It},its=YM ri++(it::r)->(Xq its).take (j0 its i)=ms/\∀k it' j,ri.reverse[k]? = X (it',j)->its[k]? = X it'/\j=j0 its k:=by
    intro its it r O;have h1:its.take i=YM ri:=by rw[O,QiD (by omega),JE (by omega)]
    refine⟨?_,λk it' j hk=>⟨?_,?_⟩⟩
    ·unfold j0;rw[h1,O,BZ,<-hms];simp
    ·have hk2:(YM ri)[k]? = X it':=by simp only[YM,<-List.map_reverse,Yn,hk,Ki]
     rw[O,Jo (QX.1 hk2).1];exact hk2
    have hkl:=(QX.1 hk).1;rw[hj k it' j hk];unfold j0;rw[O,QiD (by simp at hkl;omega)]
   have envB:∀{its:L_ It} {it:It} {r:L_ It} {σ:St},its=YM ri++(it::r)->Um σ B->(∀k y fl nf,its[k]? = X (.add y fl nf)->OW o k=true->Tp σ y fl (ms.drop (j0 its k)))->
     (∀x u,QbH B false ms ri i o x=X u->σ.opd x=X u)/\∀b u,QfW B false ms ri i o b=X u->look σ.hp b=X u:=by
    intro its it r σ O hsub hdep;have dep:∀{t:Nat} {x:DF},ZB false o t false ms ri i=X x->look σ.fr x.d=X x.v/\x.d=t:=λhf=>by
     obtain⟨k,fl,nf,j,g1,g2,g3,g4⟩:=Qhw hi hf;obtain⟨g5,g6⟩:=(place O).2 k _ j g1;exact⟨(hdep k _ fl nf g5 g2).1 (by rw[<-g6];exact g4),g3⟩
    have depO:∀{t:Nat} {x:DF},ZB true o t false ms ri i=X x->(∀ob,x.ob=X ob->look σ.hp x.d=X ob)/\x.d=t:=λhf=>by
     obtain⟨k,fl,nf,j,g1,g2,g3,g4⟩:=Qhw hi hf;obtain⟨g5,g6⟩:=(place O).2 k _ j g1;exact⟨(hdep k _ fl nf g5 g2).2 (by rw[<-g6];exact g4),g3⟩
    refine⟨λx u hx=>?_,λb u hx=>?_⟩
    ·cases x with
     | tmp t=>
      simp only[QbH]at hx;split at hx
      ·rename_i v hv;cases hx;exact hsub.1 _ _ hv
      split at hx
      ·rename_i y hy;cases hx;obtain⟨g1,g2⟩:=dep hy;subst g2;exact g1
      cases hx
     | const v=>exact hx
     | global g=>exact hx
     | func f=>exact hx
    simp only[QfW]at hx;split at hx
    ·rename_i v hv;cases hx;exact hsub.2 _ _ hv
    split at hx
    ·rename_i y hy;obtain⟨g1,g2⟩:=depO hy;subst g2;exact g1 _ hx
    cases hx
   have envS:∀{its:L_ It} {it:It} {r:L_ It} {σ:St},its=YM ri++(it::r)->Um σ S->(∀k y nf,its[k]? = X (.add y true nf)->OW o k=true->QfH σ y)->
     (∀x u,QbH S true ms ri i o x=X u->σ.opd x=X u)/\∀b u,QfW S true ms ri i o b=X u->look σ.hp b=X u:=by
    intro its it r σ O hsub hdep;have dep:∀{b:Bool} {t:Nat} {x:DF},ZB b o t true ms ri i=X x->QfH σ x/\x.d=t:=λhf=>by
     obtain⟨k,fl,nf,j,g1,g2,g3,g4⟩:=Qhw hi hf;obtain⟨g5,g6⟩:=(place O).2 k _ j g1;have:fl=true:=g4;subst this;exact⟨hdep k _ nf g5 g2,g3⟩
    refine⟨λx u hx=>?_,λb u hx=>?_⟩
    ·cases x with
     | tmp t=>
      simp only[QbH]at hx;split at hx
      ·rename_i v hv;cases hx;exact hsub.1 _ _ hv
      split at hx
      ·rename_i y hy;cases hx;obtain⟨g1,g2⟩:=dep hy;subst g2;exact g1.1
      cases hx
     | const v=>exact hx
     | global g=>exact hx
     | func f=>exact hx
    simp only[QfW]at hx;split at hx
    ·rename_i v hv;cases hx;exact hsub.2 _ _ hv
    split at hx
    ·rename_i y hy;obtain⟨g1,g2⟩:=dep hy;subst g2;exact g1.2 _ hx
    cases hx
   have addOK:∀{x:DF} {fl nf:Bool} {φ0:Prop},UY P C T n ops S ds l (i+1) ((.add x fl nf,ms.length)::ri) ms B φ0=X D->
     (φ0->φ/\∀σ,(∀y u,QbH (bif fl&&!nf then S else B) (fl&&!nf) ms ri i o y=X u->σ.opd y=X u)->(∀b u,QfW (bif fl&&!nf then S else B) (fl&&!nf) ms ri i o b=X u->look σ.hp b=X u)->(x.ob.isSome=true->look σ.hp x.d=none)->Kd P C ops o σ (σ.addF x))->
     φ/\D.ri.length=i+(ds.length+1)/\(∃r,YM D.ri=YM ri++r)/\D.ms=Xq (YM D.ri)/\D.B=Tn base D.ms/\(∀k it j,D.ri.reverse[k]? = X (it,j)->j=j0 (YM D.ri) k)/\
      ∀k o it,i<=k->ops[k]? = X o->(YM D.ri)[k]? = X it->QeO P C ops base S (YM D.ri) k o it:=by
    intro x fl nf φ0 h hs;refine grow (.add x fl nf) φ0 ms B (by rw[BZ];simp[Xq,hms]) hB h λh0=>?_;obtain⟨g1,g2⟩:=hs h0;refine⟨g1,λits ⟨r,O⟩=>?_⟩;dsimp only[QeO];generalize (fl&&!nf)=ff at g2 ⊢;cases ff with
    | true=>exact λσ hsub hdep hf=>let ⟨a,b⟩:=envS O hsub hdep;g2 σ a b hf
    | false=>
     intro σ hsub hdep hf;rw[(place O).1,<-hB]at hsub;rw[(place O).1]at hdep;obtain⟨a,b⟩:=envB O hsub hdep;exact g2 σ a b hf
   cases d with
   | a h0 sv fl nf=>
    rw[UY]at h;split at h
    ·rename_i hw;split at h
     ·rename_i dd hd;replace h:=Yd h;obtain⟨e1,h⟩:=h;rw[<-hn]at e1;have stp:∀{v:V} {ob:O_ Ob} {q:O_ Prop} {σ:St},ev1 P C T h0 o dd (QbH (bif fl&&!nf then S else B) (fl&&!nf) ms ri i o) (QfW (bif fl&&!nf then S else B) (fl&&!nf) ms ri i o)=X ⟨v,ob,q⟩->Rs.holds ⟨v,ob,q⟩->
        (∀x u,QbH (bif fl&&!nf then S else B) (fl&&!nf) ms ri i o x=X u->σ.opd x=X u)->(∀b u,QfW (bif fl&&!nf then S else B) (fl&&!nf) ms ri i o b=X u->look σ.hp b=X u)->(ob.isSome=true->look σ.hp dd=none)->Kd P C ops o σ (σ.addF ⟨dd,v,ob⟩):=
       λhe hq hx hh hf=>Kd.want (QfX hw λt u ht=>hx (.tmp t) u ht) (Qhs ok hd e1 hN.g hx hh he hq hf)
      split at h
      ·rename_i v ob q he;split at h
       ·exact addOK h λh1=>let ⟨a,b⟩:=QbD h1;⟨a,λσ hx hh hf=>stp he b hx hh hf⟩
       refine addOK h λh1=>?_;obtain⟨h1,h2⟩:=h1;subst h2;obtain⟨a,b⟩:=QbD h1;exact⟨a,λσ hx hh hf=>(stp he b hx hh hf).denil⟩
      cases h
     cases h
    ·rename_i hw;split at h
     ·rename_i dd hd;replace h:=Yd h;obtain⟨e1,h⟩:=h;rw[<-hn]at e1;exact addOK h λh1=>⟨h1,λσ hx hh hf=>Kd.unwant (QfX hw λt u ht=>hx (.tmp t) u ht) hd e1⟩
     cases h
    cases h
   | m md=>
    rw[UY]at h;split at h
    ·rename_i hw;split at h
     ·rename_i M q he;refine grow (.tn M) (QbC φ q) (ms++[M]) (M.run B) (by rw[BZ];simp[Xq,hms]) (by rw[Qme,<-hB];rfl) h λh1=>?_;obtain⟨a,b⟩:=QbD (v:=.J) (ob:=none) h1;refine⟨a,λits ⟨r,O⟩ σ hsub hdep=>?_⟩;rw[(place O).1,<-hB]at hsub;rw[(place O).1]at hdep;obtain⟨hx,hh⟩:=envB O hsub hdep;refine Kd.want (QfX hw λt u ht=>hx (.tmp t) u ht) (Qpm ok hN he ?_ hx hh);cases q with
      | none=>trivial
      | some p=>exact b
     cases h
    cases h
def Nb (ms:L_ Yr):L_ (It×Nat)->S_
 | []=>[]
 | (.add x fl _,j)::r=>bif alv x fl (ms.drop j)then(x.d,x.v)::Nb ms r else Nb ms r
 | (.tn _,_)::r=>Nb ms r
def La (ms:L_ Yr):L_ (It×Nat)->H_
 | []=>[]
 | (.add x fl _,j)::r=>bif Qen x fl (ms.drop j)then(match x.ob with | some ob=>(x.d,ob)::La ms r | none=>La ms r)else La ms r
 | (.tn _,_)::r=>La ms r
def okV (ops:Array Oper)(base S:St)(D:Dr):Bool:=Qn6 ops&&QvK ops (YM D.ri)&&QqU base (YM D.ri)&&Qod ops D.ms (YM D.ri)&&Qoe ops (YM D.ri) D.ms S&&QsT ops (YM D.ri)
def RL {α:Type}{l:L_ (Nat×α)}:∀{O:L_ Nat} {r:L_ (Nat×α)},XA l O=X r->∀p∈r,look l p.1=X p.2:=by
 intro O
 induction O with
 | nil=>intro r h p hp;cases h;cases hp
 | cons t O ih=>
  intro r h p hp;rw[XA]at h;split at h
  ·rename_i v hv;split at h
   ·rename_i r' hr;cases h;rcases XV.1 hp with rfl | hp
    ·exact hv
    exact ih hr p hp
   cases h
  cases h
def QqW {fr:S_}:∀{l:S_},(∀p∈l,look fr p.1=X p.2)->NH fr l:=by
 intro l
 induction l with
 | nil=>intro _;trivial
 | cons p l ih=>intro h;exact⟨h p XD,ih λq O=>h q (Yb _ O)⟩
def Qkb {fr:H_}:∀{l:H_},(∀p∈l,look fr p.1=X p.2)->HP fr l:=by
 intro l
 induction l with
 | nil=>intro _;trivial
 | cons p l ih=>intro h;exact⟨h p XD,ih λq O=>h q (Yb _ O)⟩
def AK.draw2 {id:Nat}(ok:Gw P T)(hN:JF P C n)(hmix:P.follows .mixedOrders=true)(ds:L_ Dw)(sts sos ts os:L_ Nat){sf:S_}{sh:H_}{fr:S_}{hp:H_}{O:L_ (It×Nat)}{ms:L_ Yr}{B:St}{φ:Prop}
  (hS1:XA base.fr sts=X sf) (hS2:XA base.hp sos=X sh)
  (e:UY P C T n ops ⟨sf,sh⟩ ds ops.toList 0 [] [] base True=X ⟨O,ms,B,φ⟩) (hφ:φ) (hl:ds.length=ops.size) (hk:okV ops base ⟨sf,sh⟩ ⟨O,ms,B,φ⟩=true)
  (hf1:XA (Nb ms O++B.fr) ts=X fr) (hf2:XA (La ms O++B.hp) os=X hp) (hc:St.closed ⟨fr,hp⟩=true) (k:AK P C Q (.x .normal) ks ⟨fr,hp⟩):AK P C Q (.c (.region id ops true)) ks base:=by
 have hn:=hN.n;obtain⟨D,hD⟩:∃D:Dr,D=⟨O,ms,B,φ⟩:=⟨_,rfl⟩;rw[<-hD]at e hk;have hφ:D.φ:=by rw[hD];exact hφ
 have hf1:XA (Nb D.ms D.ri++D.B.fr) ts=X fr:=by rw[hD];exact hf1
 have hf2:XA (La D.ms D.ri++D.B.hp) os=X hp:=by rw[hD];exact hf2
 clear hD;simp only[okV,QJ]at hk;obtain⟨⟨⟨⟨⟨k1,k2⟩,k3⟩,k4⟩,k5⟩,k6⟩:=hk;obtain⟨_,h2,_,h4,h5,h6,h7⟩:=Qof (base:=base) ok hN ds e rfl rfl rfl rfl (λk it j h=>by simp at h) hφ;have hlen:(YM D.ri).length=ops.size:=by simp[YM];omega
 rw[h4]at k4 k5;have hS:Um base ⟨sf,sh⟩:=⟨λt v h=>by
  have:=RL hS1 (t,v) (Jw h);exact this,λp ob h=>by have:=RL hS2 (p,ob) (Jw h);exact this⟩
 refine AK.drawV hmix hlen k1 k2 k3 k6 k4 k5 hS (λi o it ho hit=>h7 i o it (MU _) ho hit) λσ hsub hadd=>?_;rw[<-h4,<-h5]at hsub;have hadd':∀x fl nf j,(It.add x fl nf,j)∈D.ri->Tp σ x fl (D.ms.drop j):=by
  intro x fl nf j hm;obtain⟨i,hi⟩:=List.getElem?_of_mem (List.mem_reverse.2 hm);have hj:=h6 i _ j hi;rw[hj,h4];refine hadd i x fl nf ?_;simp only[YM,<-List.map_reverse,Yn,hi,Ki]
 have frOK:∀{O:L_ (It×Nat)},(∀q∈O,q∈D.ri)->∀{t:Nat} {v:V},look (Nb D.ms O) t=X v->look σ.fr t=X v:=by
  intro O
  induction O with
  | nil=>intro _ t v h;cases h
  | cons y O ih=>
   intro hm t v h;have hm':=λq hq=>hm q (Yb _ hq);obtain⟨it,j⟩:=y;cases it with
   | tn M=>exact ih hm' h
   | add x fl nf=>
    rw[Nb]at h;cases hal:alv x fl (D.ms.drop j)with
    | false=>rw[hal]at h;exact ih hm' h
    | true=>
     rw[hal]at h;have h:look ((x.d,x.v)::Nb D.ms O) t=X v:=h;by_cases e:x.d=t
     ·subst e;rw[QB]at h;cases h;exact(hadd' x fl nf j (hm _ XD)).1 hal
     rw[Qw _ _ e]at h;exact ih hm' h
 have hpOK:∀{O:L_ (It×Nat)},(∀q∈O,q∈D.ri)->∀{t:Nat} {v:Ob},look (La D.ms O) t=X v->look σ.hp t=X v:=by
  intro O
  induction O with
  | nil=>intro _ t v h;cases h
  | cons y O ih=>
   intro hm t v h;have hm':=λq hq=>hm q (Yb _ hq);obtain⟨it,j⟩:=y;cases it with
   | tn M=>exact ih hm' h
   | add x fl nf=>
    rw[La]at h;cases hal:Qen x fl (D.ms.drop j)with
    | false=>rw[hal]at h;exact ih hm' h
    | true=>
     rw[hal]at h;cases hob:x.ob with
     | none=>rw[hob]at h;exact ih hm' h
     | some ob=>
      rw[hob]at h;have h:look ((x.d,ob)::La D.ms O) t=X v:=h;by_cases e:x.d=t
      ·subst e;rw[QB]at h;cases h;exact(hadd' x fl nf j (hm _ XD)).2 hal _ hob
      rw[Qw _ _ e]at h;exact ih hm' h
 refine AK.weaken (λa w hR=>hR.to (QqW λp hp'=>?_) (Qkb λp hp'=>?_) hc) k
 ·have:=RL hf1 p hp';rw[AN]at this;cases hl:look (Nb D.ms D.ri) p.1 with
  | some v=>rw[hl]at this;cases this;exact frOK (λ_ h=>h) hl
  | none=>rw[hl]at this;exact hsub.1 _ _ this
 have:=RL hf2 p hp';rw[AN]at this;cases hl:look (La D.ms D.ri) p.1 with
 | some v=>rw[hl]at this;cases this;exact hpOK (λ_ h=>h) hl
 | none=>rw[hl]at this;exact hsub.2 _ _ this
end
def Stp.callSame {P:Program}{C:Xr}{T:UI}{n:Nat}{o:Oper}{md:MD}{f:Operand->O_ V}{hp:Nat->O_ Ob}{σ:St}{d:Nat}{v:V}{q:Prop}(ok:Gw P T)(hN:JF P C n)(h:∀x u,f x=X u->σ.opd x=X u)(O:∀b u,hp b=X u->look σ.hp b=X u)
  (e:mu1 P C T n md o f hp=X (⟨[],[],X (d,v)⟩,X q)) (hq:q):Stp P C o σ (σ.addF ⟨d,v,none⟩):=Qpm (q:=X q) ok hN e hq h O
def Qyz {α:Type}{f:α->L_ V}{l:L_ α}{k:Nat}:((l.map f).drop k).take (l.length-k)=(l.drop k).map f:=by
 rw[<-List.map_drop];exact JE (by simp)
def Qbb {α:Type}{f:α->L_ V}{l:L_ α}{k h:Nat}:((l.map f).drop k).take (h-k)=((l.drop k).take (h-k)).map f:=by simp
def QyA {α:Type}{l:L_ α}{k:Nat}:l.length-k=(l.drop k).length:=PZ.symm
def Qui {a b:Nat}(h:decide (a<=b)=true):a<=b:=Xd h
section
variable {P:Program}{C:Xr}{σ:St}{o:Oper}
def Qhx (P:Program)(T:TypeId)(k:IntKind):Bool:=match P.underlying T with
 | some (.int q)=>ikB q k
 | _=>false
def QfY {T:TypeId}{k:IntKind}(h:Qhx P T k=true):P.underlying T=X (.int k):=by
 unfold Qhx at h;split at h
 ·rename_i q O;rw[O,QqG h]
 cases h
def Stp.convI {S T d:Nat}{x:Operand}{k h:IntKind}{n:Int}(ho:o.op=.convert S T x)(hd:o.dst=X d)(hn:B_ d C)(hx:σ.opd x=X (.i h n))(hs:Qhx P S h=true)(O:Qhx P T k=true):Stp P C o σ (σ.put d (.i k (k.wrap n))):=by
 refine Stp.same hd hn λφ a w hr=>⟨.int k (k.wrap n),?_,.dat (.i _ _)⟩;simp[execOp,ho,(hr.opd hx).i_inv,convert,run_underlying (QfY hs),run_underlying (QfY O),Conv.intToInt]
def Qs0 (k:IntKind)(m n:Int):Int:=k.wrap (m*2 ^ (min n.toNat k.bits))
def KB (k:IntKind)(m n:Int):Int:=m.fdiv (2 ^ (min n.toNat k.bits))
def Stp.shl {x y:Operand}{T U d:Nat}{k k':IntKind}{m n:Int}(ho:o.op=.binOp .shl T x y U)(O:o.dst=X d)(hn:B_ d C)(hx:σ.opd x=X (.i k m))(hy:σ.opd y=X (.i k' n))(h0:0<=n):Stp P C o σ (σ.put d (.i k (Qs0 k m n))):=by
 refine Stp.same O hn λφ a w h=>⟨.int k _,?_,.dat (.i _ _)⟩;have:¬n<0:=by omega
 simp[execOp,ho,(h.opd hx).i_inv,(h.opd hy).i_inv,eqGuard,binOp,Op.shift,this,Qs0]
def Stp.shr {x y:Operand}{T U d:Nat}{k k':IntKind}{m n:Int}(ho:o.op=.binOp .shr T x y U)(O:o.dst=X d)(hn:B_ d C)(hx:σ.opd x=X (.i k m))(hy:σ.opd y=X (.i k' n))(h0:0<=n):Stp P C o σ (σ.put d (.i k (KB k m n))):=by
 refine Stp.same O hn λφ a w h=>⟨.int k _,?_,.dat (.i _ _)⟩;have:¬n<0:=by omega
 simp[execOp,ho,(h.opd hx).i_inv,(h.opd hy).i_inv,eqGuard,binOp,Op.shift,this,KB]
def Gy (k:IntKind)(m n:Int):Int:=k.wrap ((BitVec.ofInt k.bits m &&& BitVec.ofInt k.bits n).toNat:Int)
def Stp.andB {x y:Operand}{T U d:Nat}{k:IntKind}{m n:Int}(ho:o.op=.binOp .and T x y U)(O:o.dst=X d)(hn:B_ d C)(hx:σ.opd x=X (.i k m))(hy:σ.opd y=X (.i k n)):Stp P C o σ (σ.put d (.i k (Gy k m n))):=
 Stp.same O hn λφ a w h=>⟨.int k _,by simp[execOp,ho,(h.opd hx).i_inv,(h.opd hy).i_inv,eqGuard,binOp,Op.intBits,Gy],.dat (.i _ _)⟩
def Nc : L_ V->O_ (L_ Value)
 | []=>X []
 | .i k n::r=>(Nc r).map (.int k n::·)
 | .b x::r=>(Nc r).map (.bool x::·)
 | .s x::r=>(Nc r).map (.string x::·)
 | _=>none
def Quj {φ:Nat->O_ QQ}{I:Nat->Prop}{w:World}:∀{O:L_ V} {vs xs:L_ Value},Nc O=X vs->xs.length=O.length->(∀(j:Nat) x v,xs[j]? = X x->O[j]? = X v->QM φ I w x v)->xs=vs:=by
 intro O
 induction O with
 | nil=>intro vs xs h hl _;cases h;exact Qqp hl
 | cons c O ih=>
  intro vs xs h hl hr;cases xs with
  | nil=>cases hl
  | cons x xs=>
   have h0:=hr 0 x c rfl rfl;have hi:∀{us:L_ Value},Nc O=X us->xs=us:=λe=>ih e (by simpa using hl) λj x v a b=>hr (j+1) x v a b;cases c with
   | i k n=>simp only[Nc,Yq]at h;obtain⟨us,e,rfl⟩:=h;rw[h0.i_inv,hi e]
   | b k=>simp only[Nc,Yq]at h;obtain⟨us,e,rfl⟩:=h;rw[h0.b_inv,hi e]
   | s k=>simp only[Nc,Yq]at h;obtain⟨us,e,rfl⟩:=h;rw[h0.s_inv,hi e]
   | _=>cases h
def QM.aggVals {φ:Nat->O_ QQ}{I:Nat->Prop}{w:World}{x:Value}{O:L_ V}{vs:L_ Value}(h:QM φ I w x (.agg O))(hv:Nc O=X vs):x=.agg vs.toArray:=by
 obtain⟨xs,rfl,hs,hr⟩:=h.agg_inv;have:=Quj (xs:=xs.toList) hv (by simpa using hs) λj x v a b=>hr j x v (by simpa using a) b;rw[<-this]
def EqT (P:Program)(T:TypeId)(vs us:L_ Value)(r:Bool):Prop:=P.eqGuardType P.depth T=false/\∀w,(Op.equalIn 10000 T (.agg vs.toArray) (.agg us.toArray)).run P w=.ok r w
def Stp.eqAgg {x y:Operand}{T U d:Nat}{O ds:L_ V}{vs us:L_ Value}{r:Bool}(ho:o.op=.binOp .eql T x y U)(hd:o.dst=X d)(hn:B_ d C)(hx:σ.opd x=X (.agg O))(hy:σ.opd y=X (.agg ds))(hv:Nc O=X vs)(hu:Nc ds=X us)(h:EqT P T vs us r):
  Stp P C o σ (σ.put d (.b r)):=by
 refine Stp.same hd hn λφ a w hr=>⟨.bool r,?_,.dat (.b _)⟩;have h1:=(hr.opd hx).aggVals hv;have h2:=(hr.opd hy).aggVals hu;have h3:=h.2 w;simp only[execOp,ho,h1,h2,eqGuard,Xj,run_program,Xu,h.1];simp[binOp,Op.equal,Op.maxDepth,h3,h.1]
end
section
variable {P:Program}{C:Xr}{σ:St}{Q:Exit->St->Prop}{ks:L_ Fr}{ops:Array Oper}{rest:L_ Oper}{o:Oper}
def AK.eqNil {x y:Operand}{T U d e z:Nat}{rows:L_ (L_ V)}(hg:o.guard=none)(ho:o.op=.binOp .eql T x y U)(hd:o.dst=X d)(hn:B_ d C)(hx:σ.opd x=X (.sl z rows))(hy:σ.opd y=X (.lit (.slice none 0 0)))(hT:P.underlying T=X (.slice e))
  (h1:rows=[]->AK P C Q (.o ops rest) ks (σ.put d (.b true))) (h2:AK P C Q (.o ops rest) ks (σ.put d (.b false))):AK P C Q (.o ops (o::rest)) ks σ:=by
 intro a w hR;obtain⟨φ,hr⟩:=hR;have hyv:a.eval y=.slice none 0 0:=(hr.opd hy).lit_inv;have h:∀p l c,a.eval x=.slice p l c->(execOp a.eval o).run P w=.ok (.value (.bool p.isNone)) w:=λp l c e=>by
  simp[execOp,ho,e,hyv,eqGuard,binOp,run_equal_slice_nil w T _ p l c hT]
 have go:∀{v:Bool} {σ':St},(execOp a.eval o).run P w=.ok (.value (.bool v)) w->σ'=σ.put d (.b v)->AK P C Q (.o ops rest) ks σ'->wpListIn C.F 0 P ops (up C (unw P C Q ks)) (o::rest) a w:=λ{v σ'} e e2 k=>by
  have:Stp P C { o with op:=.move (.const (.bool v)) } σ (σ.put d (.b v)):=Stp.move rfl hd hn rfl;simp only[wpListIn,Region.wanted,hg,if_true];refine⟨λ_ _=>trivial,?_⟩;rw[Ql3 e,Oper.uponIn_value];subst e2;refine k _ _ ⟨φ,?_⟩;rw[hd];exact hr.put (XF hn) (.dat (.b _))
 rcases(hr.opd hx).sl_inv with⟨p,c,O,h0⟩|⟨b,off,cap,O,_⟩
 ·cases p with
  | none=>exact go (h none 0 c O) rfl (h1 h0)
  | some p=>exact go (h (X p) 0 c O) rfl h2
 exact go (h _ _ _ O) rfl h2
end
section
variable {P:Program}{C:Xr}{σ:St}{o:Oper}
def Stp.buildAny {T d e z by_ n:Nat}{O:Array (Nat×Operand)}{zs vs:L_ V}{qs:S_}(ho:o.op=.buildSlice T n O)(hd:o.dst=X d)(hn:B_ d C)
  (hT:Yy P T=X (e,z,by_)) (hz:Yc P e=X zs) (hzl:zs.length=z) (hz0:z≠0) (hbig:n*z<=16777216) (hq:σ.opds O.toList=X qs) (hv:qs.all (λq=>q.2.isV)=true)
  (hf:Aq (λi=>X (i*z,z)) ((List.range (n*z)).map λk=>zs.getD (k % z) .J) qs=X vs)
  (hfr:look σ.hp d=none):Stp P C o σ ((σ.set d (.var vs)).put d (.own d n)):=by
 refine Stp.val λφ a w hr=>?_;obtain⟨hu,i,hi,hi1,_⟩:=Wh hT;obtain⟨i',zv,hi',hz',rfl⟩:=HF hz;rw[hi]at hi';cases hi';have hzs:zv.cells.size=i.size:=by rw[hi1];simpa using hzl
 have hf0:=hf;rw[<-hi1]at hf;rw[<-QfF zv.cells n i.size hzs (by omega)]at hf;obtain⟨xs',h1,h2,h3⟩:=hr.fill hq hv hf;refine⟨.slice (X ⟨w.heap.size,0,none⟩) n n,w.alloc (.cells xs' e),ext φ d ⟨w.heap.size,n,1,[],0⟩,?_,?_⟩
 ·have e2:(O.map λp=>(p.1,a.eval p.2)).toList=O.toList.map λp=>(p.1,a.eval p.2):=by simp
  have hb:¬(n*i.size > 2 ^ 24):=by rw[hi1];omega
  by_cases hn0:n*i.size=0
  ·have hn1:n=0:=by
    rw[hi1]at hn0;rcases Nat.mul_eq_zero.1 hn0 with h | h
    ·exact h
    exact absurd h hz0
   subst hn1;simp only[IV]at h1;rw[Qn4,Array.map_empty]at h1;simp only[execOp,ho,Instr.buildSlice,Xj,run_underlying hu,Xu,sizeOf,typeInfo,run_program,hi,Xw,IV,if_true,e2,Qn4,Array.map_empty];simp[h1,newRow]
  simp only[execOp,ho,Instr.buildSlice,Xj,run_underlying hu,Xu,sizeOf,typeInfo,run_program,hi,Xw,if_neg hb,if_neg hn0,zeroValue,hz',e2,h1,newRow,run_newObj];simp
 have hN:=hr.none_of_look hfr;have hnew:=hr.alloc (cap:=n) (z:=1) hfr (C.slot hn) (ob:=.var vs) (obj:=.cells xs' e)
  ⟨xs',e,heap_alloc_new w _,h2,rfl,λj x v hx hv'=>(h3 j x v hx hv').mono (hr.mono_ext _ hN) (hr.imm_alloc d n 1 _ hN)⟩
 rw[hd];refine hnew.put (XF hn) ?_;exact .own d n ⟨w.heap.size,n,1,[],0⟩ (Xa _ _ _) (Yx _)
def Stp.idxV {T d e z by_ b n m:Nat}{x y:Operand}{cs:L_ V}{k:IntKind}{j:Int}(ho:o.op=.indexAddr T x y)(hd:o.dst=X d)(hn:B_ d C)
  (hx:σ.opd x=X (.own b n)) (hy:σ.opd y=X (.i k j)) (hT:Yy P T=X (e,z,by_)) (hb:look σ.hp b=X (.var cs)) (h:(0<=j/\j<n)/\j.toNat*z=m):
  Stp P C o σ (σ.put d (.loc b 0 m)):=by
 refine Stp.same hd hn λφ a w hr=>?_;obtain⟨⟨h,h1⟩,rfl⟩:=h;rcases(hr.opd hx).own_inv with⟨_,rfl⟩|⟨B,hB,O,he⟩
 ·omega
 refine⟨.pointer (X ⟨B.b,B.off+(0*B.z+j.toNat*z),none⟩),?_,.loc b 0 (j.toNat*z) B hB⟩;simp only[execOp,ho,he,(hr.opd hy).i_inv,Xj,Qbw hT h h1,Xu,Xw,Addr.add_lit,IV,Ui]
end
section
variable {P:Program}{C:Xr}{Q:Exit->St->Prop}
def Rnd (P:Program)(C:Xr)(Q:Exit->St->Prop)(ks:L_ Fr)(c:Code):Nat->St->Prop
 | 0,_=>False
 | n+1,σ=>AK P C Q (.c c) (.cut (Rnd P C Q ks c n)::ks) σ
def AK.rnd {ks:L_ Fr}{c:Code}{n:Nat}{σ:St}(h:AK P C Q (.c c) (.cut (Rnd P C Q ks c n)::ks) σ):Rnd P C Q ks c (n+1) σ:=h
def AK.loopN {ks:L_ Fr}{c:Code}(n:Nat){σ:St}(h:Rnd P C Q ks c n σ):AK P C Q (.c (.loop c)) ks σ:=by
 have key:∀(n:Nat) (σ:St) (a:Act) (w:World),Rnd P C Q ks c n σ->R C σ a w->Code.roundsIn C.F 0 P c (up C (unw P C Q ks)) n a w:=by
  intro n
  induction n with
  | zero=>intro σ a w h;exact h.elim
  | succ n ih=>
   intro σ a w h O;rw[roundsIn_succ];refine wpIn_mono (h a w O) ?_;rintro e a' w' ⟨σ',h1,h2⟩;cases e with
   | normal=>exact ih σ' a' w' h1 h2
   | _=>exact⟨σ',h1,h2⟩
 exact λa w O=>wpIn_loop_rounds n (key n σ a w h O)
end
def Qmg (h:L_ V):L_ Tmp->L_ V->L_ V
 | p::O,v::vs=>Qmg (h.set p v) O vs
 | _,_=>h
def Quk {φ:Nat->O_ QQ}{I:Nat->Prop}{w:World}:∀(ps:L_ Tmp) (h:L_ Value) (vs:L_ V) (O:Array Value) (cs:L_ V),h.length=vs.length->O.size=cs.length->
  (∀(j:Nat) x v,O[j]? = X x->cs[j]? = X v->QM φ I w x v)->(∀(j:Nat) x v,h[j]? = X x->vs[j]? = X v->QM φ I w x v)->
  ((ps.zip h).foldl (λO p=>O.setIfInBounds p.1 p.2) O).size=(Qmg cs ps vs).length/\∀(j:Nat) x v,((ps.zip h).foldl (λO p=>O.setIfInBounds p.1 p.2) O)[j]? = X x->(Qmg cs ps vs)[j]? = X v->QM φ I w x v:=by
 intro ps
 induction ps with
 | nil=>intro h vs O cs _ h2 h3 _;cases vs<;>exact⟨h2,h3⟩
 | cons p ps ih=>
  intro h vs O cs h1 h2 h3 h4;cases h with
  | nil=>cases vs with
   | nil=>exact⟨h2,h3⟩
   | cons=>cases h1
  | cons y h=>cases vs with
   | nil=>cases h1
   | cons v vs=>
    refine ih h vs (O.setIfInBounds p y) (cs.set p v) (by simpa using h1) (by simpa using h2) (λj x u hx hu=>?_) λj x u hx hu=>h4 (j+1) x u hx hu;by_cases e:p=j
    ·subst e;rw[Array.getElem?_setIfInBounds_self]at hx;rw[List.getElem?_set_self']at hu;split at hx
     ·rename_i hlt;cases hx;rw[Qp (by omega)]at hu;cases hu;exact h4 0 _ _ rfl rfl
     cases hx
    rw[Qqx e]at hx;rw[ND e]at hu;exact h3 j x u hx hu
def ZY (P:Program)(l:Nat)(K:FC)(us:L_ V)(hs:H_)(post:V->H_->Prop):Prop:=
 ∀(S:Nat->Prop) (φ:Nat->O_ QQ) (w:World) (h:Array Value),Ins S φ w h us hs->Qaq P S w->
  RoundIn Fence.wide 0 P l K.fn h K.assign K.body w λe w'=>∃x v O φ',e=.returned x/\post v O/\Outs S φ w φ' w' x v O
def QxH {C:Xr}{n:Nat}{P:Program}{l:Nat}{f:FuncId}{tmps:Array Value}{assign body:Code}{w:World}{R:Ending->World->Prop}(h:RoundIn Fence.wide 0 P l f tmps assign body w R):RoundIn C.F n P l f tmps assign body w R:=
 ⟨trivial,λc O _=>h.2 c O (room_wide _)⟩
section
variable {P:Program}{C:Xr}{φ:Nat->O_ QQ}{σ:St}{a:Act}{w:World}{o:Oper}
def RR.lp (h:RR C φ σ a w){b l:Nat}{K:FC}{O:L_ V}{q:Nat}(hb:look σ.hp b=X (.lp l K O q)):∃B,φ b=X B/\QwN φ (QZ C φ w) w B l K O q:=by
 rcases h.heap b _ hb with h | ⟨_,h⟩
 ·exact h
 exact h.elim
def RR.lpSet (h:RR C φ σ a w){b l:Nat}{K:FC}{cs:L_ V}{q q':Nat}(hb:look σ.hp b=X (.lp l K cs q)):
  ∃r:Loop,w.heap[l]? = X (.loop r)/\r.state=lst q/\r.pending=jmp q/\RR C φ (σ.set b (.lp l K cs q')) a (w.putObj l (.loop { r with state:=lst q',pending:=jmp q' })):=by
 obtain⟨B,hB,tmps,D,rfl,h1,h2,h3,h4⟩:=h.lp hb;refine⟨_,h2,rfl,rfl,?_⟩;have hlt:=(h.lt b B B.b hB B.self).1;have hk:∀k,k≠B.b->(w.putObj B.b (.loop { state:=lst q',pending:=jmp q',fn:=K.fn,tmps,params:=K.ps,assign:=K.assign,body:=K.body,defers:=D })).heap[k]? = w.heap[k]? := λk hk=>World.putObj_heap_other hk;refine h.write hB rfl rfl rfl World.putObj_size hk ⟨tmps,D,rfl,h1,World.putObj_heap_same hlt,h3,λj x v hx hv=>?_⟩;refine(h4 j x v hx hv).mono (λ_ _ h=>h) λk O=>⟨⟨by rw[World.putObj_size];exact O.1,O.2⟩,hk k λe=>O.2.2 b B hB (.inl e)⟩
def Stp.yield {d b l:Nat}{K:FC}{cs:L_ V}{q:Nat}{x:Operand}{O:Array Operand}{ts:Array TypeId}{M N:L_ (Nat×Nat)}{dead:L_ Nat}{hsC outs hsN:H_}{vs us:L_ V}{r r':V}(ho:o.op=.call { callee:=.value x,args:=O,argTypes:=ts })
  (hx:σ.opd x=X (.clo (.yield l) [] [])) (hlp:look σ.hp b=X (.lp l K cs q)) (hq:q=0) (ha:σ.opsV O.toList=X vs) (hps:vs.length=K.ps.size) (hd:o.dst=X d) (hn:B_ d C) (hpg:C.pg P)
  (hnm:Er σ M N dead outs=true) (hnd:(M.map Prod.fst).Nodup)
  (hv:Vws σ.hp false false (Ar M) (λa b=>look M b=X a) (Qmg cs K.ps.toList vs) us) (hobs:OX σ.hp false false (Ar M) (λa b=>look M b=X a) σ.hp M hsC)
  (hc:ZY P l K us hsC (Gives r outs)) (hback:OX [] false false [] (λc b=>look N b=X c) outs N hsN) (hr':Vw [] false false [] (λc b=>look N b=X c) r r'):
  Stp P C o σ ((σ.after dead hsN).put d r'):=by
 intro a w ⟨φ,hr⟩ next Q hnext;subst hq;have hN:=Names.of hnm hnd;refine⟨λ_ _=>trivial,?_⟩;obtain⟨h1,h2⟩:=hr.opsV _ _ ha;obtain⟨xs,ys,hev,e1,e2,_,_⟩:=(hr.opd hx).clo_inv;have e1:xs=#[]:=QsC e1;have e2:ys=#[]:=QsC e2;subst e1;subst e2;obtain⟨B,hB,tmps,D,e0,_,hh,hsz,hrep⟩:=hr.lp hlp;have hl1:(O.toList.map a.eval).length=vs.length:=by simpa using h1
 obtain⟨s1,s2⟩:=Quk (φ:=φ) (I:=QZ C φ w) (w:=w) K.ps.toList (O.toList.map a.eval) vs tmps cs hl1 hsz hrep (λj x v hx hv=>by
  simp only[Yn,Yq]at hx;obtain⟨y,hy,rfl⟩:=hx;exact h2 j y v hy hv)
 have hsize:(O.map a.eval).size=K.ps.size:=by rw[<-hps,<-hl1];simp
 have hfold:(K.ps.zip (O.map a.eval)).foldl (λtmps (t,a)=>tmps.setIfInBounds t a) tmps=(K.ps.toList.zip (O.toList.map a.eval)).foldl (λtm p=>tm.setIfInBounds p.1 p.2) tmps:=by
  rw[<-Array.foldl_toList];simp
 have hex:(execOp a.eval o).run P w=.ok (.round l K.fn ((K.ps.toList.zip (O.toList.map a.eval)).foldl (λtm p=>tm.setIfInBounds p.1 p.2) tmps).toList.toArray K.assign K.body) w:=by
  simp only[execOp,ho,resolve,Xj,hev,Deferred.ofValue,Xw,Xu,invoke,Array.empty_append];rw[run_yield hh hsize,hfold]
 rw[Oper.semAt_eq _ _ _ (by rw[ho];intro c hc;cases hc),hex,Oper.uponIn_round];refine⟨(λh=>by cases h),QxH ((hc _ _ w _ (Ins.of_vals hr (by simpa using s1) (λj x v hx hv=>s2 j x v (by simpa using hx) hv) hN.injM hN.param hv hobs) ((hr.glob hpg).mono λ_ h=>.inl h)).mono ?_)⟩;rintro e w' ⟨x,v,hs',φ',rfl,⟨rfl,hso⟩,hout⟩;obtain⟨h3,h4⟩:=hr.after hN hout hso (λc s h=>by
  obtain⟨ob',e1⟩:=hobs.get.2 c s h;obtain⟨s',ob,e2,e3,_⟩:=hobs.get.1 c ob' e1;rw[h]at e2;cases e2;exact⟨ob,e3⟩) hback
 refine hnext _ _ ⟨OY φ M N dead φ',?_⟩;rw[hd];exact h3.put (XF hn) (h4 hr')
def QxI (b l:Nat)(K:FC)(h:V->H_->Prop):Exit->St->Prop
 | .normal,σ=>∃O,look σ.hp b=X (.lp l K O 1)/\h (.b true) ((b,.lp l K O 0)::σ.hp)
 | .ret,σ=>∃O,look σ.hp b=X (.lp l K O 1)/\h (.b false) ((b,.lp l K O 2)::σ.hp)
 | .exit k,σ=>∃O,look σ.hp b=X (.lp l K O 1)/\h (.b false) ((b,.lp l K O (k+3))::σ.hp)
 | _,_=>False
def ZY.walk {b l:Nat}{K:FC}{us:L_ V}{hs:H_}{post:V->H_->Prop}(n:Nat)(hn:us.length=n)(hle:Nat.ble n 621=true)
  (h:∀C:Xr,JF P C n->AK P C (λe σ=>e=.normal/\∃cs,look σ.hp b=X (.lp l K cs 0)/\AK P C (QxI b l K post) (.c K.body) [] (σ.set b (.lp l K cs 1))) (.c K.assign) [] ⟨OV 0 us,hs⟩):ZY P l K us hs post:=by
 intro S φ w vals hi hG;let C:Xr:=⟨w,S,λk=>∃o B,φ o=X B/\B.has k,n,φ,Jl hle,X l⟩;have hF:Fence.wide.inRound l=C.F:=rfl;have hI:∀k,S k->QZ C φ w k/\w.heap[k]? = w.heap[k]? := λk hk=>⟨⟨hi.lt k hk,λ_=>hk,λo B hB e=>((hi.dom o B hB).2.1 k e).2 hk⟩,rfl⟩;have hR:R C ⟨OV 0 us,hs⟩ { tmps:=vals,defers:=[] } w:=by
  refine⟨φ,rfl,rfl,rfl,Yx _,λ_ _ _=>rfl,hi.inj,λo B hB=>(hi.dom o B hB).2.2,λo B k hB hk=>⟨((hi.dom o B hB).2.1 k hk).1,λ_=>⟨o,B,hB,hk⟩⟩,λo B k hB hk hlt=>absurd (hi.dom o B hB).1 (by omega),⟨λ_ _ _ h=>h,λ_ _ _ _ _ h=>h⟩,
   by show vals.size=n;rw[hi.size,hn],⟨[],rfl,List.nodup_nil,λ_ h=>by cases h⟩,λt v hv=>?_,λo ob hob=>?_⟩
  ·obtain⟨_,h2⟩:=Qpe us 0 t v hv;rw[Nat.sub_zero]at h2;have hlt:t<vals.size:=by rw[hi.size];exact(QX.1 h2).1
   exact⟨vals[t],Ug hlt,(hi.args t _ v (Ug hlt) h2).mono (λ_ _ h=>h) hI⟩
  rcases hi.heap o ob hob with⟨B,hB,hr⟩|hn
  ·exact .inl ⟨B,hB,hr.mono (λ_ _ h=>h) hI λ_ _=>rfl⟩
  exact .inr hn
 refine roundIn_of_wpIn trivial ?_;rw[hF];refine wpIn_mono (h C ⟨rfl,hG,λg hg ⟨o,B,hB,hb⟩=>((hi.dom o B hB).2.1 g hb).2 (hG g hg).1⟩ _ _ hR) ?_;rintro e a1 w1 ⟨σ1,⟨rfl,cs,hlp,hbody⟩,φ1,hr1⟩;obtain⟨r,g1,g2,g3,g4⟩:=hr1.lpSet (q':=1) hlp;refine⟨_,run_beginRound g1 g2,?_⟩;have hbusy:({ r with state:=LoopState.busy }:Loop)={ r with state:=lst 1,pending:=jmp 1 }:=by
  rw[show jmp 1=r.pending from g3.symm];rfl
 rw[hbusy];refine wpIn_mono (hbody _ _ ⟨φ1,g4⟩) ?_;rintro e a2 w2 ⟨σ2,hq,φ2,hr2⟩;have fin:∀(O:O_ Code) (q:Nat) (cs2:L_ V),look σ2.hp b=X (.lp l K cs2 1)->jmp q=O->(if O.isNone then LoopState.ready else LoopState.done)=lst q->post (.b O.isNone) ((b,.lp l K cs2 q)::σ2.hp)->
   ∃v w',(Instr.endRound l O).run P w2=.ok v w'/\∃x v' hs' φ',Ending.returned v=.returned x/\post v' hs'/\Outs S φ w φ' w' x v' hs':=λO q cs2 hl2 hj hst hp=>by
  obtain⟨r2,k1,_,_,k4⟩:=hr2.lpSet (q':=q) hl2;refine⟨_,_,run_endRound O k1,.bool O.isNone,.b O.isNone,_,φ2,rfl,hp,?_⟩;rw[hst,<-hj];exact⟨k4.os,k4.tape,k4.output,k4.size,λk hk hne=>k4.kept k hk (λ⟨o,B,hB,e⟩=>hne o B hB e),k4.inj,k4.dom,
   λo B k hB hk=>⟨(k4.lt o B k hB hk).1,λhlt=>(k4.lt o B k hB hk).2 hlt⟩,k4.new,k4.stay,.dat (.b _),k4.heap⟩
 cases e with
 | normal=>obtain⟨cs2,hl2,hp⟩:=hq;exact fin none 0 cs2 hl2 rfl rfl hp
 | ret=>obtain⟨cs2,hl2,hp⟩:=hq;exact fin (X .ret) 2 cs2 hl2 rfl rfl hp
 | exit k=>obtain⟨cs2,hl2,hp⟩:=hq;exact fin (X (.exit k)) (k+3) cs2 hl2 rfl rfl hp
 | _=>exact hq.elim
def RR.mark (h:RR C φ σ a w):RR C φ σ { a with defers:={ target:=.collected w.heap.size,args:=#[] }::a.defers } (w.alloc (.deferred (X []))):=by
 have O:=h.step (w':=w.alloc (.deferred (X []))) rfl rfl rfl (by simp) (λk hk=>Below.heap_alloc w _ k hk);refine⟨O.os,O.tape,O.output,O.size,O.kept,O.inj,O.dom,O.lt,O.new,O.stay,O.tmps,?_,O.frame,O.heap⟩;obtain⟨Ds,h1,h2,h3⟩:=O.defers;obtain⟨Ds',h1',h2',h3'⟩:=h.defers;refine⟨w.heap.size::Ds',by simp[h1'],Ao.2 ⟨λhm=>absurd (h3' _ hm).2.1.1 (by omega),h2'⟩,λD hD=>?_⟩;rcases XV.1 hD with rfl | hD
 ·refine⟨h.size,⟨by simp,λhlt=>absurd h.size (by omega),λo B hB hh=>absurd (h.lt o B _ hB hh).1 (by omega)⟩,World.alloc_heap_new w _⟩
 obtain⟨a1,a2,a3⟩:=h3' D hD;exact⟨a1,⟨by have:=a2.1;simp;omega,a2.2⟩,(Below.heap_alloc w _ D a2.1).trans a3⟩
def RR.killTo (h:RR C φ σ a w){b:Nat}{B:QQ}(O:φ b=X B){w':World}(ho:w'.os=w.os)(ht:w'.tape=w.tape)(hu:w'.output=w.output)(hs:w'.heap.size=w.heap.size)(hk:∀k,k≠B.b->w'.heap[k]? = w.heap[k]?):RR C (Gq φ b) (σ.kill b) a w':=by
 have hI:∀k,QZ C φ w k->QZ C (Gq φ b) w' k/\w'.heap[k]? = w.heap[k]? := λk hk'=>⟨⟨by rw[hs];exact hk'.1,hk'.2.1,λo B' hB'=>hk'.2.2 o B' (JP hB').2⟩,hk k λe=>hk'.2.2 b B O (.inl e)⟩;have hφ:∀o B,o≠b->φ o=X B->Gq φ b o=X B:=λo B ho O=>by rw[WF ho];exact O
 refine⟨ho.trans h.os,ht.trans h.tape,hu.trans h.output,by rw[hs];exact h.size,λk h1 h2=>(hk k λe=>h2 ((h.lt b B k O (.inl e)).2 h1)).trans (h.kept k h1 h2),λo o' B B' k h1 h2=>h.inj o o' B B' k (JP h1).2 (JP h2).2,?_,λo B k O=>by rw[hs];exact h.lt o B k (JP O).2,λo B k O=>h.new o B k (JP O).2,
  ⟨λo B h1 O=>h.stay.1 o B h1 (JP O).2,λo ob B h1 ho O=>by obtain⟨hne,ob',h2,_⟩:=Jv _ _ _ ho;rw[WF hne];exact h.stay.2 o ob' B h1 h2 O⟩,h.tmps,h.defers.mono hI,?_,?_⟩
 ·intro o B O;obtain⟨h1,h2⟩:=JP O;obtain⟨ob,hob⟩:=h.dom o B h2;exact⟨_,JO _ _ _ h1 hob⟩
 ·intro t v hv;obtain⟨v',hv',rfl⟩:=Lu _ _ _ hv;obtain⟨x,hx,hr⟩:=h.frame t v' hv';exact⟨x,hx,hr.kill hφ hI⟩
 intro o ob hob;obtain⟨hne,ob',hob',rfl⟩:=Jv _ _ _ hob;rcases h.heap o ob' hob' with⟨B',hB',hr⟩|⟨h1,hz⟩
 ·exact .inl ⟨B',hφ o B' hne hB',hr.kill hφ hI λk hk'=>hk k λe=>hne (h.inj o b B' B k hB' O hk' (.inl e))⟩
 exact .inr ⟨by rw[WF hne];exact h1,hz.kill⟩
def snap (h:L_ Nat)(fr:S_)(n:Nat):L_ V:=(List.range n).map λt=>bif XK h t then(match look fr t with
 | some v=>v
 | none=>.J)else .J
def RR.snap {ts:L_ Nat}(h:RR C φ σ a w):∀(j:Nat) x v,a.tmps[j]? = X x->(snap ts σ.fr C.n)[j]? = X v->QM φ (QZ C φ w) w x v:=by
 intro j x v hx O;simp only[Vm.snap,Yn,Yq]at O;obtain⟨t,ht,rfl⟩:=O;obtain⟨_,rfl⟩:=QX.1 ht;simp only[Qa3]at *;cases hm:XK ts j with
 | false=>exact .dat (.J _)
 | true=>
 simp only[Ql];split
 ·rename_i v O;obtain⟨y,hy,hr⟩:=h.frame _ _ O;rw[hx]at hy;cases hy;exact hr
 exact .dat (.J _)
def rgV (P:Program)(σ:St)(f:Nat)(vs:L_ V)(M N:L_ (Nat×Nat))(dead:L_ Nat)(ms:L_ Mode)(outs:H_)(r:V):O_ (St×Prop):=
 bif Er σ M N dead outs&&FR (M.map Prod.fst)&&FR (N.map Prod.fst)then match Tk (EW M) ms vs with
  | some us=>match LE (EW M) (look σ.hp) M with
   | some h=>match LE (EW N) (look outs) N with
    | some O=>X (σ.after dead O,QN P f us h (Gives r outs))
    | none=>none
   | none=>none
  | none=>none
 else none
def atJ (p:Prop)(f:Code->Prop):O_ Code->Prop
 | none=>p
 | some c=>f c
end
section
variable {P:Program}{C:Xr}{φ:Nat->O_ QQ}{σ:St}{a:Act}{w:World}{o:Oper}
def Qhy (P:Program)(T:TypeId)(i:Nat):O_ (Nat×Bool×Nat):=match P.underlying T with
 | some (.struct fs)=>match fs[i]? with
  | some f=>match Ap P f.type with
   | some g=>match Cv P f.type with
    | some n=>X (f.offset,g,n)
    | none=>none
   | none=>none
  | none=>none
 | _=>none
def Qs1 {T i off n:Nat}{g:Bool}(h:Qhy P T i=X (off,g,n)):∃(fs:Array Field) (f:Field),P.underlying T=X (.struct fs)/\fs[i]? = X f/\f.offset=off/\Ap P f.type=X g/\Cv P f.type=X n:=by
 unfold Qhy at h;split at h
 ·rename_i fs hu;split at h
  ·rename_i f O;split at h
   ·rename_i g' hg;split at h
    ·rename_i n' hn;cases h;exact⟨fs,f,hu,O,rfl,hg,hn⟩
    cases h
   cases h
  cases h
 cases h
def Stp.field {T i d off n:Nat}{g:Bool}{x:Operand}{cs:L_ V}{v:V}(ho:o.op=.field T x i)(hd:o.dst=X d)(hn:B_ d C)(hx:σ.opd x=X (.agg cs))(hT:Qhy P T i=X (off,g,n))
  (h:(bif g then X (.agg ((cs.drop off).take n))else cs[off]?)=X v):Stp P C o σ (σ.put d v):=by
 refine Stp.same hd hn λφ a w hr=>?_;obtain⟨fs,f,hu,hf,rfl,hg,hsz⟩:=Qs1 hT;obtain⟨xs,he,hs,hc⟩:=(hr.opd hx).agg_inv;cases g with
 | true=>
  cases h;refine⟨.agg (xs.extract f.offset (f.offset+n)),?_,.agg _ _ (by simp;omega) λj x v hj h=>?_⟩
  ·simp only[execOp,ho,he,Instr.field,Xj,run_underlying hu,Xu,hf,part,asAgg,Xw,Qde hg,if_true,QfC hsz]
  rw[Array.getElem?_extract]at hj;split at hj
  ·rw[KA]at h;split at h
   ·rw[Cs]at h;exact hc _ x v hj h
   cases h
  cases hj
 | false=>
  simp only[Qi]at h;have O:f.offset<xs.size:=by rw[hs];exact(QX.1 h).1
  refine⟨xs[f.offset],?_,hc _ _ v (Ug O) h⟩;simp[execOp,ho,he,Instr.field,Xj,run_underlying hu,hf,part,asAgg,Qde hg,O]
def Qul : ∀(ms:L_ (O_ Nat)) (h:L_ V),(GJ ms h).length=h.length:=by
 intro ms
 induction ms with
 | nil=>intro h;cases h<;>rfl
 | cons m ms O=>intro h;cases h with
  | nil=>rfl
  | cons c h=>simp[GJ,O]
def XH.den1 {I:Nat->Prop}{w:World}{x:Value}{v:V}{m:O_ Nat}(h:XH I w x v):XH I w x (Vm.den1 m v):=by
 unfold Vm.den1;split
 ·cases h;exact .sl0 _ _ _
 exact h
def QvP {m:O_ Nat}{v:V}(h:v.one=true):(Vm.den1 m v).one=true:=by
 unfold Vm.den1;split
 ·rfl
 exact h
def R.denilA {b z:Nat}{rs:L_ (L_ V)}{ms:L_ (O_ Nat)}(hb:look σ.hp b=X (.arr z rs))(h:R C σ a w):R C (σ.set b (.arr z (rs.map (GJ ms)))) a w:=by
 obtain⟨φ,O⟩:=h;have hden:∀(ms:L_ (O_ Nat)) (r:L_ V),(∀v∈r,v.one=true)->∀v∈GJ ms r,v.one=true:=by
  intro ms
  induction ms with
  | nil=>intro r O;cases r<;>exact O
  | cons m ms ih=>intro r O;cases r with
   | nil=>exact O
   | cons c r=>
    intro v hv;rcases XV.1 hv with rfl | hv
    ·exact QvP (O c XD)
    exact ih r (λv hv=>O v (Yb _ hv)) v hv
 by_cases hne:rs=[]
 ·subst hne;exact⟨φ,O.sayOb (ob':=.arr z []) hb (λ_ _ h=>h) (.inl rfl)⟩
 refine⟨φ,O.sayOb hb (λB hB hrep=>?_) (.inr λe=>hne e)⟩;obtain⟨h1,h2,h3,cs,E,h4,h5,h6⟩:=hrep;refine⟨h1,by simpa using h2,λr hr'=>?_,cs,E,h4,h5,λi r hi j v hj=>?_⟩
 ·obtain⟨r0,hr0,rfl⟩:=YB.1 hr';exact⟨by rw[Qul];exact(h3 r0 hr0).1,hden _ _ (h3 r0 hr0).2⟩
 rw[Yn]at hi;obtain⟨r0,hi0,rfl⟩:=Yq.1 hi;obtain⟨m,v',hv',rfl⟩:=Qby _ _ j v hj;obtain⟨x,hx,hD⟩:=h6 i r0 hi0 j v' hv';exact⟨x,hx,hD.den1⟩
def AK.denilA {Q:Exit->St->Prop}{pt:Pt}{ks:L_ Fr}{b z:Nat}{rs us:L_ (L_ V)}(ms:L_ (O_ Nat))(O:look σ.hp b=X (.arr z rs))(he:rs.map (GJ ms)=us)(k:AK P C Q pt ks (σ.set b (.arr z us))):AK P C Q pt ks σ:=by
 subst he;exact AK.weaken (λa w h=>R.denilA O h) k
def Qmh {α:Type}{f:α->L_ V}{n:Nat}{x:α}{r:L_ V}{ms:L_ (O_ Nat)}(h:GJ ms r=f x):(List.replicate n r).map (GJ ms)=(List.replicate n x).map f:=by simp[h]
end
def QxJ {p:Prop}{f:Code->Prop}{q:Nat}(h:(q==0)=true)(k:p):atJ p f (jmp q):=by rw[eq_of_beq h];exact k
def Qzf {p:Prop}{f:Code->Prop}{q:Nat}(h:(q==2)=true)(k:f .ret):atJ p f (jmp q):=by rw[eq_of_beq h];exact k
def rfs : Code->L_ (Array Tmp×Code×Code)
 | .seq x y=>rfs x++rfs y
 | .cond _ x y=>rfs x++rfs y
 | .block _ x=>rfs x
 | .loop x=>rfs x
 | .rangeFunc _ h a b=>[(h,a,b)]
 | _=>[]
def QxK (f:Func)(k fn:Nat):FC:=match f.body with
 | some c=>match (rfs c)[k]? with
  | some (h,a,b)=>⟨fn,h,a,b⟩
  | none=>⟨fn,#[],.skip,.skip⟩
 | none=>⟨fn,#[],.skip,.skip⟩
def yV (P:Program)(σ:St)(l d:Nat)(K:FC)(vs:L_ V)(M N:L_ (Nat×Nat))(dead:L_ Nat)(ms:L_ Mode)(outs:H_)(r:V):O_ (St×Prop):=
 bif Er σ M N dead outs&&FR (M.map Prod.fst)&&FR (N.map Prod.fst)then match Tk (EW M) ms vs with
  | some us=>match LE (EW M) (look σ.hp) M with
   | some h=>match LE (EW N) (look outs) N with
    | some O=>match trV (EW N) r with
     | some r'=>X ((σ.after dead O).put d r',ZY P l K us h (Gives r outs))
     | none=>none
    | none=>none
   | none=>none
  | none=>none
 else none
section
variable {P:Program}{C:Xr}{σ σ':St}{o:Oper}
def Stp.yieldV {d b l:Nat}{K:FC}{cs:L_ V}{q:Nat}{x:Operand}{O:Array Operand}{ts:Array TypeId}{M N:L_ (Nat×Nat)}{dead:L_ Nat}{outs:H_}{vs us:L_ V}{ms:L_ Mode}{r:V}{φ:Prop}(ho:o.op=.call { callee:=.value x,args:=O,argTypes:=ts })
  (hx:σ.opd x=X (.clo (.yield l) [] [])) (hlp:look σ.hp b=X (.lp l K cs q)) (hq:q=0) (ha:σ.opsV O.toList=X vs) (hps:vs.length=K.ps.size) (hd:o.dst=X d) (hn:B_ d C) (hpg:C.pg P)
  (hu:Qmg cs K.ps.toList vs=us) (e:yV P σ l d K us M N dead ms outs r=X (σ',φ)) (hφ:φ):Stp P C o σ σ':=by
 unfold yV at e;replace e:=Yd e;obtain⟨e1,e⟩:=e;simp only[QJ]at e1;obtain⟨⟨h1,h2⟩,h3⟩:=e1;have h2:=GK.1 h2;have h3:=GK.1 h3;have inj:MX M=true/\MX N=true:=by
  simp only[Er,QJ]at h1;exact⟨h1.1.1.1,h1.1.1.2⟩
 have mM:∀a b,EW M a=X b->look M b=X a:=λa b h=>WH inj.1 (Lv h) h2;have mN:∀a b,EW N a=X b->look N b=X a:=λa b h=>WH inj.2 (Lv h) h3;split at e
 ·rename_i us hus;split at e
  ·rename_i hsC hC;split at e
   ·rename_i hsN hN;split at e
    ·rename_i r' hr;cases e;subst hu;exact Stp.yield ho hx hlp hq ha hps hd hn hpg h1 h2 (PF mM hus) (Ub mM hC) hφ (Ub mN hN) (SN mN hr)
    cases e
   cases e
  cases e
 cases e
end
section
variable {P:Program}{C:Xr}{φ:Nat->O_ QQ}{σ:St}{a:Act}{w:World}{o:Oper}
def QgC {O:Array Value}{z m i:Nat}(hz:O.size=z)(h0:0<z)(h:i<m*z):(Builtin.zeroCells O m).toList[i]? = O[i % z]? := by
 have h2:i % z<O.size:=by rw[hz];exact Nat.mod_lt _ h0
 simp only[Builtin.zeroCells,hz,Array.toList_map,Array.toList_range,Yn,List.getElem?_range h,Ki,Array.getElem!_eq_getD,Qap,Ug h2,GI]
def RR.clearTail {b n l z e:Nat}{rs:L_ (L_ V)}{zs:L_ V}{zv:Value}{B:QQ}(hr:RR C φ σ a w)(hb:look σ.hp b=X (.arr z rs))(hrn:rs.length=n)(hB:φ b=X B)(hzs:zv.cells.toList.map BW=zs)(hzl:zs.length=z)(h0:0<z)(hzo:zs.all V.one=true)
  (hln:l<=n):∃w',(storeCells ⟨B.b,B.off+l*z,none⟩ (Builtin.zeroCells zv.cells (n-l)).toList).run P w=.ok () w'/\RR C φ (σ.set b (.arr z (rs.take l++List.replicate (n-l) zs))) a w':=by
 obtain⟨hz,hrl,hok,xs,E,e1,e2,e3⟩:=hr.block hB hb;subst hz;have hcs:zv.cells.size=B.z:=by rw[<-hzl,<-hzs];simp
 rw[XJ]at hzo;have O:(Builtin.zeroCells zv.cells (n-l)).toList.length=(n-l)*B.z:=by simp[Builtin.zeroCells,hcs]
 have hmul:l*B.z+(n-l)*B.z=n*B.z:=by rw[<-Kv];congr 1;omega
 have hnc:n*B.z<=B.cap*B.z:=Jx _ (by omega);have hone:∀v∈(Builtin.zeroCells zv.cells (n-l)).toList,v.oneCell'=true:=by
  intro v hv;obtain⟨i,hi⟩:=En.1 hv;have hil:i<(n-l)*B.z:=by rw[<-O];exact(QX.1 hi).1
  rw[QgC hcs h0 hil]at hi;have hm:(BW v)∈zs:=by rw[<-hzs];exact List.mem_map_of_mem (Qj7.2 (Array.mem_of_getElem? hi))
  exact((QM.dat (φ:=φ) (I:=λ_=>True) (w:=w) (XH.const v)).oneCell (hzo _ hm)).2
 generalize hZ:(Builtin.zeroCells zv.cells (n-l)).toList=Z at O hone;have hrun:=run_storeCells_at P B.b (B.off+l*B.z) E Z 0 xs w e1 (by rw[O];omega) hone;simp only[IT]at hrun;refine⟨_,hrun,?_⟩;have hl1:(xs.toList.take (B.off+l*B.z)++Z++xs.toList.drop (B.off+l*B.z+Z.length)).length=xs.size:=by simp[O];omega
 refine hr.write hB rfl rfl rfl (by simp) (λk hk=>setRow_other w B.b k _ hk) ⟨rfl,by simp;omega,?_,_,E,setRow_heap w B.b xs _ E _ e1,?_,?_⟩
 ·intro r' hr';rcases XU.1 hr' with h | h
  ·exact hok r' (Cu h)
  rw[Zu h];exact⟨hzl,hzo⟩
 ·simp only[List.size_toArray,hl1];exact e2
 have hI:∀k,QZ C φ w k->QZ C φ (w.setRow B.b (xs.toList.take (B.off+l*B.z)++Z++xs.toList.drop (B.off+l*B.z+Z.length)).toArray) k/\
   (w.setRow B.b (xs.toList.take (B.off+l*B.z)++Z++xs.toList.drop (B.off+l*B.z+Z.length)).toArray).heap[k]? = w.heap[k]?:=
  λk hk=>⟨⟨by simpa using hk.1,hk.2⟩,setRow_other w B.b k _ λe=>hk.2.2 b B hB (.inl e)⟩
 intro i r hi j v hj;by_cases hil:i<l
 ·rw[Jo (by simp;omega),KA,if_pos hil]at hi;obtain⟨y,hy,hD⟩:=e3 i r hi j v hj;have hjz:j<B.z:=by rw[<-(hok r (Xt hi)).1];exact(QX.1 hj).1
  have hlt:i*B.z+j<l*B.z:=by
   have:(i+1)*B.z<=l*B.z:=Jx _ hil;rw[Kv]at this;omega
  refine⟨y,?_,hD.mono hI⟩;have hyl:=(AX.1 hy).1;rw[NE,Dz,Jo (by simp;omega),KA,if_pos (by omega)];simpa using hy
 rw[Kn (by simp;omega)]at hi;simp only[KX,hrn,IU hln]at hi;rw[List.getElem?_replicate]at hi;split at hi
 ·rename_i hin;cases hi;have hjz:j<B.z:=by rw[<-hzl];exact(QX.1 hj).1
  rw[<-hzs,Yn]at hj;obtain⟨y,hy,rfl⟩:=Yq.1 hj;refine⟨y,?_,XH.const y⟩;have hidx:(i-l)*B.z+j<(n-l)*B.z:=by
   have:(i-l+1)*B.z<=(n-l)*B.z:=Jx _ hin;rw[Kv]at this;omega
  have hsum:i*B.z=l*B.z+(i-l)*B.z:=by rw[<-Kv];congr 1;omega
  rw[NE,Dz,Kn (by simp;omega),Jo (by simp[O];omega)];have:B.off+(i*B.z+j)-(xs.toList.take (B.off+l*B.z)).length=(i-l)*B.z+j:=by simp;omega
  rw[this,<-hZ,QgC hcs h0 hidx];have hm:((i-l)*B.z+j) % B.z=j:=by rw[Nat.add_comm,Nat.add_mul_mod_self_right,Nat.mod_eq_of_lt hjz]
  rw[hm];simpa using hy
 cases hi
def AK.clearTail {Q:Exit->St->Prop}{ks:L_ Fr}{ops:Array Oper}{rest:L_ Oper}{o1 o2:Oper}{T d b n l z e by_:Nat}{x lo:Operand}{rs us:L_ (L_ V)}{zs:L_ V}(hg1:o1.guard=none)(hg2:o2.guard=none)
  (ho1:o1.op=.slice T x (X lo) none none) (hd1:o1.dst=X d) (ho2:o2.op=.call { callee:=.builtin .clear,args:=#[.tmp d],argTypes:=#[T] }) (hd2:o2.dst=none) (hn:B_ d C)
  (hx:σ.opd x=X (.own b n)) (hb:look σ.hp b=X (.arr z rs)) (hrn:rs.length=n) (hT:Yy P T=X (e,z,by_)) (hz:Yc P e=X zs) (hzl:zs.length=z) (h0:Nat.ble 1 z=true) (hzo:zs.all V.one=true) (hl:GC σ 0 (X lo) l) (hln:l<=n)
  (hu:rs.take l++List.replicate (n-l) zs=us) (k:AK P C Q (.o ops rest) ks ((σ.set b (.arr z us)).put d .J)):AK P C Q (.o ops (o1::o2::rest)) ks σ:=by
 intro a w ⟨φ,hr⟩;subst hu;have h0:=Jl h0;obtain⟨hu,i,hi',hiz,_⟩:=Wh hT;obtain⟨i',zv,hi2,hz',hzs⟩:=HF hz;have key:∃x1 w',(execOp a.eval o1).run P w=.ok (.value x1) w/\(Builtin.clear_ #[T] o2.type #[x1]).run P w=.ok (.tuple #[]) w'/\RR C φ (σ.set b (.arr z (rs.take l++List.replicate (n-l) zs))) a w':=by
  rcases(hr.opd hx).own_inv with⟨he,rfl⟩|⟨B,hB,hcap,he⟩
  ·have l0:l=0:=by omega
   subst l0;have:rs=[]:=HO.1 hrn;subst this;refine⟨.slice none 0 0,w,?_,?_,hr.sayOb (ob':=.arr z []) hb (λ_ _ h=>h) (.inl rfl)⟩
   ·have O:=Au (P:=P) (b:=true) hr hl (.no (dflt:=0)) (by omega) (by omega:0<=0);simp only[Ki,PB]at O;simp[execOp,ho1,he,Instr.sliceAt,Instr.slice,run_underlying hu,O,sizeOf,typeInfo,hi']
   simp[Builtin.clear_,run_underlying hu]
  have O:=Au (P:=P) (b:=true) hr hl (.no (dflt:=n)) hln (by omega:n<=B.cap);simp only[Ki,PB]at O;by_cases hcl:B.cap=l
  ·have hln2:n-l=0:=by omega
   refine⟨.slice (X ⟨B.b,B.off,none⟩) 0 0,w,?_,?_,?_⟩
   ·simp only[execOp,ho1,he,Instr.sliceAt,Instr.slice,run_underlying hu,O,sizeOf,typeInfo,hi',Xj,Xw,run_program,Xu,Ki,PB];simp[hcl];omega
   ·simp[Builtin.clear_,run_underlying hu]
   rw[hln2,List.replicate_zero,Qda,JE (by omega)];exact hr.sayOb hb (λ_ _ h=>h) (.inl rfl)
  obtain⟨w',hw,hr'⟩:=hr.clearTail (P:=P) (l:=l) (e:=e) hb hrn hB hzs hzl h0 hzo hln;refine⟨.slice (X ⟨B.b,B.off+l*z,none⟩) (n-l) (B.cap-l),?_⟩;have hex:(execOp a.eval o1).run P w=.ok (.value (.slice (X ⟨B.b,B.off+l*z,none⟩) (n-l) (B.cap-l))) w:=by
   simp only[execOp,ho1,he,Instr.sliceAt,Instr.slice,run_underlying hu,O,sizeOf,typeInfo,hi',Xj,Xw,run_program,Xu,Ki,PB,if_neg hcl,hiz,Addr.add_lit]
  by_cases hnl:n-l=0
  ·refine⟨w,hex,?_,?_⟩
   ·rw[hnl];simp[Builtin.clear_,run_underlying hu]
   rw[hnl,List.replicate_zero,Qda,JE (by omega)];exact hr.sayOb hb (λ_ _ h=>h) (.inl rfl)
  refine⟨w',hex,?_,hr'⟩;obtain⟨m,hm⟩:∃m,n-l=m+1:=⟨n-l-1,by omega⟩;rw[hm]at hw ⊢;rw[hi2]at hi';cases hi';simp only[Builtin.clear_,Xj,run_underlying hu,Xu,Xw,zeroValue,typeInfo,run_program,hi2,hz',NE,Ql2];simp[hw,hz']
 obtain⟨x1,w',hex,hcl,hr'⟩:=key;have hput:∀t,(a.put (X d) x1).tmps[t]? = if t=d then(if d<a.tmps.size then X x1 else none)else a.tmps[t]? := λt=>by
  simp only[Act.put,Qej];by_cases e:d=t
  ·subst e;simp
  simp[e,Ne.symm e]
 have hev:(a.put (X d) x1).eval (.tmp d)=x1:=by
  have hlt:d<a.tmps.size:=by rw[hr.tmps];exact XF hn
  simp[Act.eval,Act.put,Qap,Qej,hlt]
 have hex2:(execOp (a.put (X d) x1).eval o2).run P w=.ok (.value (.tuple #[])) w':=by
  simp only[execOp,ho2,resolve,invoke,builtin,Xj,Xw,Xu,List.map_toArray,EZ,List.map_nil,hev,hcl]
 show wpListIn C.F 0 P ops (up C (unw P C Q ks)) (o1::o2::rest) a w;simp only[wpListIn,Region.wanted,hg1,if_true];refine⟨λ_ _=>trivial,?_⟩;rw[Ql3 hex,Oper.uponIn_value,hd1];simp only[wpListIn,Region.wanted,hg2,if_true];refine⟨λ_ _=>trivial,?_⟩;rw[Ql3 hex2,Oper.uponIn_value,hd2];exact k _ _ ⟨φ,hr'.put (XF hn) (.dat (.J x1))⟩
def QxL {α:Type}{f:α->L_ V}{e:L_ α}{l k:Nat}{zs:L_ V}{x:α}{ms:L_ (O_ Nat)}(h:∀y,GJ ms (f y)=f y)(O:GJ ms zs=f x):((e.map f).take l++List.replicate k zs).map (GJ ms)=(e.take l++List.replicate k x).map f:=by
 have h3:GJ ms∘f=f:=funext h;simp[List.map_take,O,h3]
def Qum {α:Type}{b l:Nat}{e:L_ α}{x:α}(h:l<=e.length):V.own b e.length=V.own b (e.take l++List.replicate (e.length-l) x).length:=by
 congr 1;simp;omega
end
end Go.Vm
namespace Go.Vm
open Go Go.RowKit Go.Proofs Go.Sort Go.Shelf
open Option renaming some→X
def NJ (l:L_ Int):L_ Int:=l.mergeSort λx y=>decide (x<=y)
def LG (x:Int):L_ V:=[V.i .i64 x]
def Qpn (l:L_ Int):(NJ l).length=l.length:=List.length_mergeSort ..
def QrT {P:Program}{ρ:Ren}(Ly:Lays.n189 P ρ)(zs:L_ Int)(hz:zs.length<4611686018427387904):
  QN P (ρ.f 189) [.own 621 zs.length] [(621,.arr 1 (zs.map LG))] (Gives (.tup []) [(621,.arr 1 ((NJ zs).map LG))]):=by
 intro S φ w vals hi _;have hs:=hi.size;obtain⟨v0,hv0⟩:∃v0,vals=#[v0]:=by
  obtain⟨l⟩:=vals
  match l,hs with
  | [x],_=>exact⟨x,rfl⟩
 subst hv0;have ha:=hi.args 0 v0 _ rfl rfl;rcases ha.own_inv with⟨hx,hn⟩|⟨B,hB,hn,hx⟩
 ·have h0:zs=[]:=Qqp hn;subst h0;subst hx;refine(Any.slices_Sort_int_none Ly none 0 w).mono ?_;rintro e w' ⟨rfl,rfl⟩;refine⟨.tuple #[],.tup [],[(621,.arr 1 [])],φ,rfl,⟨rfl,λc ob h=>by simpa[NJ] using h⟩,rfl,rfl,rfl,Yx _,λ_ _ _=>rfl,hi.inj,λo B h=>?_,λo B k h O=>?_,λo B k h O hlt=>?_,⟨λo B _ h=>h,λo ob B _ _ h=>h⟩,.dat (.tup _ _ rfl λj x v h=>by simp at h),λo ob h=>?_⟩
  ·obtain⟨_,_,ob,hob⟩:=hi.dom o B h;exact⟨ob,hob⟩
  ·obtain⟨_,h2,_⟩:=hi.dom o B h;exact⟨(h2 k O).1,λ_=>⟨o,B,h,O⟩⟩
  ·obtain⟨h1,_,_⟩:=hi.dom o B h;omega
  have hS:∀k,S k->Aft S φ w' w' k/\w'.heap[k]? = w'.heap[k]? := λk O=>⟨⟨hi.lt k O,λ_=>O,λo B h hb=>((hi.dom o B h).2.1 k hb).2 O⟩,rfl⟩;rcases hi.heap o ob h with⟨B,hB,hr⟩|hn
  ·exact .inl ⟨B,hB,hr.mono (λ_ _ h=>h) hS λ_ _=>rfl⟩
  exact .inr hn
 subst hx;have hob:Jb φ S w B (.arr 1 (zs.map LG)):=by
  rcases hi.heap 621 _ (QB _ _ _)with⟨B',hB',hr⟩|⟨hn',_⟩
  ·rw[hB]at hB';cases hB';exact hr
  rw[hB]at hn';cases hn'
 obtain⟨hz1,hle,hok,cs,E,hb,hsz,hcell⟩:=hob;have hlt:B.b<w.heap.size:=((hi.dom _ _ hB).2.1 _ B.self).1;have hrow:∀(l:L_ Int) (i:Nat) (x:Int),l[i]? = X x->(l.map LG)[i]? = X (LG x):=λl i x h=>by rw[Yn,h];rfl
 have hc:∀(i:Nat) x,zs[i]? = X x->cs[B.off+i]? = X (.int .i64 x):=λi x h=>by
  obtain⟨y,hy,hd⟩:=hcell i _ (hrow _ i x h) 0 (.i .i64 x) rfl;rw[show i*1+0=i by omega]at hy;rw[hy];cases hd;rfl
 have hH:Holds (Value.int .i64) w B.b B.off zs.toArray:=λj hj=>by
  have hj':j<zs.length:=by simpa using hj
  have h1:=hc j zs[j] (Qp hj');have h2:zs.toArray[j]! = zs[j]:=by simp[hj']
  refine⟨?_,?_⟩
  ·rw[h2];simp[World.cell?,hb,h1]
  simp[World.frozen?,hb]
 refine(Any.slices_Sort_int Ly B.b B.off B.cap zs w hH hlt hz).mono ?_;rintro e w' ⟨rfl,n,os,rfl⟩;have hh:∀k,k<w.heap.size->(grow (putRow (Value.int .i64) (Sort.ahead w n) B.b B.off (NJ zs).toArray) os).heap[k]? = (w.heap.modify B.b (onCells (putCells (Value.int .i64) B.off (NJ zs).toArray)))[k]? := λk O=>by
  rw[heap_grow_old _ _ (by rw[size_putRow];exact O)];rfl
 have ho:∀k,k<w.heap.size->k≠B.b->(grow (putRow (Value.int .i64) (Sort.ahead w n) B.b B.off (NJ zs).toArray) os).heap[k]? = w.heap[k]? := λk O hne=>by
  rw[hh k O,Qn3,if_neg (Ne.symm hne)]
 have hsize:w.heap.size<=(grow (putRow (Value.int .i64) (Sort.ahead w n) B.b B.off (NJ zs).toArray) os).heap.size:=by
  rw[size_grow,size_putRow];exact Nat.le_add_right _ _
 have hme:(grow (putRow (Value.int .i64) (Sort.ahead w n) B.b B.off (NJ zs).toArray) os).heap[B.b]? = X (.cells (putCells (Value.int .i64) B.off (NJ zs).toArray cs) E (0,0)):=by
  rw[hh _ hlt,Qn3,if_pos rfl,hb];rfl
 have hall:∀o' B',φ o'=X B'->o'=621:=λo' B' h'=>by
  obtain⟨_,_,ob,hob⟩:=hi.dom o' B' h';by_cases e:621=o'
  ·exact e.symm
  rw[Qw _ _ e]at hob;cases hob
 refine⟨.tuple #[],.tup [],[(621,.arr 1 ((NJ zs).map LG))],φ,rfl,⟨rfl,λc ob h=>h⟩,rfl,rfl,rfl,hsize,λk O hno=>?_,hi.inj,λo B h=>?_,λo B k h O=>?_,λo B k h O hl=>?_,⟨λo B _ h=>h,λo ob B _ _ h=>h⟩,.dat (.tup _ _ rfl λj x v h=>by simp at h),λo ob h=>?_⟩
 ·exact ho k O λe=>hno 621 B hB (e▸B.self)
 ·rw[hall o B h];exact⟨_,QB _ _ _⟩
 ·obtain⟨_,h2,_⟩:=hi.dom o B h;exact⟨Uh (h2 k O).1 hsize,λ_=>⟨o,B,h,O⟩⟩
 ·obtain⟨h1,_,_⟩:=hi.dom o B h;omega
 by_cases e:621=o
 ·subst e;rw[QB]at h;cases h;refine .inl ⟨B,hB,hz1,?_,?_,_,E,hme,?_,?_⟩
  ·rw[EY,Qpn];rw[EY]at hle;exact hle
  ·intro r hr;obtain⟨x,_,rfl⟩:=YB.1 hr;exact⟨rfl,λv hv=>by simp[LG]at hv;subst hv;rfl⟩
  ·simpa[putCells] using hsz
  intro i r hi' j v hj;rw[Yn]at hi';obtain⟨x,hx,rfl⟩:=Yq.1 hi';have hil:i<(NJ zs).length:=(QX.1 hx).1;have hil':i<zs.length:=by rw[Qpn]at hil;exact hil
  match j,hj with
  | 0,hj=>
   cases hj;refine⟨.int .i64 x,?_,.i _ _⟩;rw[show i*1+0=i by omega];have h1:=hc i zs[i] (Qp hil');have h2:(NJ zs).toArray[i]! = x:=by
    have:=QX.1 hx;obtain⟨h3,h4⟩:=this;simp[h3,h4]
   simp only[putCells,Array.getElem?_mapIdx,h1,Ki];rw[if_pos ⟨by omega,by simp;omega⟩,show B.off+i-B.off=i by omega,h2]
  | j+1,hj=>simp[LG]at hj
 rw[Qw _ _ e]at h;cases h
def Qog (x:Int):L_ Int->L_ Int
 | []=>[x]
 | y::l=>bif decide (x<=y)then x::y::l else y::Qog x l
def Kq : L_ Int->L_ Int
 | []=>[]
 | x::l=>Qog x (Kq l)
def Qpo (x:Int)(l:L_ Int):(Qog x l).Perm (x::l):=by
 induction l with
 | nil=>exact .refl _
 | cons y l h=>
  rw[Qog];cases decide (x<=y)with
  | true=>exact .refl _
  | false=>exact(h.cons y).trans (.swap x y l)
def Qw5 {x:Int}{l:L_ Int}(h:l.Pairwise (·<=·)):(Qog x l).Pairwise (·<=·):=by
 induction l with
 | nil=>exact Qdb _ _
 | cons y l ih=>
  obtain⟨h1,h2⟩:=FA.1 h;rw[Qog];cases c:decide (x<=y)with
  | true=>
   have c:=Xd c;refine FA.2 ⟨λz O=>?_,h⟩;rcases XV.1 O with rfl | O
   ·exact c
   have:=h1 z O;omega
  | false=>
   have c:=of_decide_eq_false c;refine FA.2 ⟨λz O=>?_,ih h2⟩;rcases XV.1 ((Qpo x l).mem_iff.1 O)with rfl | O
   ·omega
   exact h1 z O
def Tq (l:L_ Int):(Kq l).Perm l:=by
 induction l with
 | nil=>exact .refl _
 | cons x l h=>exact(Qpo x _).trans (h.cons x)
def Qeo (l:L_ Int):(Kq l).Pairwise (·<=·):=by
 induction l with
 | nil=>exact List.Pairwise.nil
 | cons x l h=>exact Qw5 h
def QfZ (l:L_ Int):Kq l=l.mergeSort λx y=>decide (x<=y):=by
 refine List.Perm.eq_of_pairwise (le:=λx y:Int=>x<=y) (λa b _ _ O h2=>by omega) (Qeo l) ?_ ((Tq l).trans (List.mergeSort_perm l _).symm);exact(List.pairwise_mergeSort (le:=λx y:Int=>decide (x<=y)) (λa b c O h2=>by simp at *;omega) (λa b=>by simp;omega) l).imp λh=>by simpa using h
def WJ (l:L_ Int):(Kq l).length=l.length:=(Tq l).length_eq
def QrU {P:Program}{ρ:Ren}(O:Lays.n189 P ρ)(zs:L_ Int)(hz:zs.length<4611686018427387904):
  QN P (ρ.f 189) [.own 621 zs.length] [(621,.arr 1 (zs.map LG))] (Gives (.tup []) [(621,.arr 1 ((Kq zs).map LG))]):=by
 have h:=QrT O zs hz;rw[show NJ zs=Kq zs from(QfZ zs).symm]at h;exact h
def JH (l:L_ Int):L_ Int:=Lib.compact l
def QrV {P:Program}{ρ:Ren}(Ly:Lays2.n20 P ρ)(zs:L_ Int)(hz:zs.length<4611686018427387904):
  QN P (ρ.f 20) [.own 621 zs.length] [(621,.arr 1 (zs.map LG))] (Gives (.own 621 (JH zs).length) [(621,.arr 1 ((JH zs).map LG))]):=by
 intro S φ w vals hi _;have hs:=hi.size;obtain⟨v0,hv0⟩:∃v0,vals=#[v0]:=by
  obtain⟨l⟩:=vals
  match l,hs with
  | [x],_=>exact⟨x,rfl⟩
 subst hv0;have ha:=hi.args 0 v0 _ rfl rfl;have hall:∀o' B',φ o'=X B'->o'=621:=λo' B' h'=>by
  obtain⟨_,_,ob,O⟩:=hi.dom o' B' h';by_cases e:621=o'
  ·exact e.symm
  rw[Qw _ _ e]at O;cases O
 rcases ha.own_inv with⟨hx,hn⟩|⟨B,hB,hn,hx⟩
 ·have h0:zs=[]:=Qqp hn;subst h0;subst hx;have hc0:JH []=[]:=by simp[JH,Lib.compact,Lib.compactUpTo]
  rw[hc0];refine(Any.slices_Compact_int_empty Ly none 0 w).mono ?_;rintro e w' ⟨rfl,rfl⟩;refine⟨.slice none 0 0,.own 621 0,[(621,.arr 1 [])],φ,rfl,⟨rfl,λc ob h=>h⟩,rfl,rfl,rfl,Yx _,λ_ _ _=>rfl,hi.inj,λo B h=>?_,λo B k h hk=>?_,λo B k h hk hlt=>?_,⟨λo B _ h=>h,λo ob B _ _ h=>h⟩,.own0 _,λo ob h=>?_⟩
  ·obtain⟨_,_,ob,O⟩:=hi.dom o B h;exact⟨ob,O⟩
  ·obtain⟨_,h2,_⟩:=hi.dom o B h;exact⟨(h2 k hk).1,λ_=>⟨o,B,h,hk⟩⟩
  ·obtain⟨h1,_,_⟩:=hi.dom o B h;omega
  have hS:∀k,S k->Aft S φ w' w' k/\w'.heap[k]? = w'.heap[k]? := λk hk=>⟨⟨hi.lt k hk,λ_=>hk,λo B h hb=>((hi.dom o B h).2.1 k hb).2 hk⟩,rfl⟩;rcases hi.heap o ob h with⟨B,hB,hr⟩|hn
  ·exact .inl ⟨B,hB,hr.mono (λ_ _ h=>h) hS λ_ _=>rfl⟩
  exact .inr hn
 subst hx;have O:Jb φ S w B (.arr 1 (zs.map LG)):=by
  rcases hi.heap 621 _ (QB _ _ _)with⟨B',hB',hr⟩|⟨hn',_⟩
  ·rw[hB]at hB';cases hB';exact hr
  rw[hB]at hn';cases hn'
 obtain⟨hz1,hle,hok,cs,E,hb,hsz,hcell⟩:=O;have hlt:B.b<w.heap.size:=((hi.dom _ _ hB).2.1 _ B.self).1;have hrow:∀(l:L_ Int) (i:Nat) (x:Int),l[i]? = X x->(l.map LG)[i]? = X (LG x):=λl i x h=>by rw[Yn,h];rfl
 have hc:∀(i:Nat) x,zs[i]? = X x->cs[B.off+i]? = X (.int .i64 x):=λi x h=>by
  obtain⟨y,hy,hd⟩:=hcell i _ (hrow _ i x h) 0 (.i .i64 x) rfl;rw[show i*1+0=i by omega]at hy;rw[hy];cases hd;rfl
 have hH:Holds (Value.int .i64) w B.b B.off zs.toArray:=λj hj=>by
  have hj':j<zs.length:=by simpa using hj
  have h1:=hc j zs[j] (Qp hj');have h2:zs.toArray[j]! = zs[j]:=by simp[hj']
  refine⟨?_,?_⟩
  ·rw[h2];simp[World.cell?,hb,h1]
  simp[World.frozen?,hb]
 have hcl:(JH zs).length<=zs.length:=by
  unfold JH Lib.compact Lib.compactUpTo;rw[EY];exact XZ (LV _ _) (by simp)
 refine(Any.slices_Compact_int Ly B.b B.off B.cap zs w hH (by omega) hn).mono ?_;rintro e w' ⟨rfl,n,rfl⟩;change ∃x v hs' φ',Ending.returned (.slice (X ⟨B.b,B.off,none⟩) (JH zs).length B.cap)=.returned x/\_/\Outs S φ w φ' (putRow (Value.int .i64) (Sort.ahead w n) B.b B.off (JH zs++List.replicate (zs.length-(JH zs).length) 0).toArray) x v hs';generalize hD:(JH zs++List.replicate (zs.length-(JH zs).length) 0).toArray=D;have hDs:D.size=zs.length:=by subst hD;simp;omega
 have hh:∀k:Nat,(putRow (Value.int .i64) (Sort.ahead w n) B.b B.off D).heap[k]? = (w.heap.modify B.b (onCells (putCells (Value.int .i64) B.off D)))[k]? := λk=>rfl;have ho:∀k:Nat,k≠B.b->(putRow (Value.int .i64) (Sort.ahead w n) B.b B.off D).heap[k]? = w.heap[k]? := λk hne=>by
  rw[hh k,Qn3,if_neg (Ne.symm hne)]
 have hsize:w.heap.size<=(putRow (Value.int .i64) (Sort.ahead w n) B.b B.off D).heap.size:=by
  rw[size_putRow];exact Yx _
 have hme:(putRow (Value.int .i64) (Sort.ahead w n) B.b B.off D).heap[B.b]? = X (.cells (putCells (Value.int .i64) B.off D cs) E (0,0)):=by
  rw[hh _,Qn3,if_pos rfl,hb];rfl
 refine⟨_,.own 621 (JH zs).length,[(621,.arr 1 ((JH zs).map LG))],φ,rfl,⟨rfl,λc ob h=>h⟩,rfl,rfl,rfl,hsize,λk hk hno=>?_,hi.inj,λo B h=>?_,λo B k h hk=>?_,λo B k h hk hl=>?_,⟨λo B _ h=>h,λo ob B _ _ h=>h⟩,.own _ _ B hB (by omega),λo ob h=>?_⟩
 ·exact ho k λe=>hno 621 B hB (e▸B.self)
 ·rw[hall o B h];exact⟨_,QB _ _ _⟩
 ·obtain⟨_,h2,_⟩:=hi.dom o B h;exact⟨Uh (h2 k hk).1 hsize,λ_=>⟨o,B,h,hk⟩⟩
 ·obtain⟨h1,_,_⟩:=hi.dom o B h;omega
 by_cases e:621=o
 ·subst e;rw[QB]at h;cases h;refine .inl ⟨B,hB,hz1,?_,?_,_,E,hme,?_,?_⟩
  ·rw[EY];omega
  ·intro r hr;obtain⟨x,_,rfl⟩:=YB.1 hr;exact⟨rfl,λv hv=>by simp[LG]at hv;subst hv;rfl⟩
  ·simpa[putCells] using hsz
  intro i r hi' j v hj;rw[Yn]at hi';obtain⟨x,hx,rfl⟩:=Yq.1 hi';have hil:i<(JH zs).length:=(QX.1 hx).1;have hil':i<zs.length:=by omega
  match j,hj with
  | 0,hj=>
   cases hj;refine⟨.int .i64 x,?_,.i _ _⟩;rw[show i*1+0=i by omega];have h1:=hc i zs[i] (Qp hil');have h2:D[i]! = x:=by
    subst hD;rw[getElem!_pos _ i (by simp;omega)];obtain⟨h3,h4⟩:=QX.1 hx;simp[List.getElem_append,h3,h4]
   simp only[putCells,Array.getElem?_mapIdx,h1,Ki];rw[if_pos ⟨by omega,by omega⟩,show B.off+i-B.off=i by omega,h2]
  | j+1,hj=>simp[LG]at hj
 rw[Qw _ _ e]at h;cases h
def QqX (s:ByteArray):Bool:=decide (s.size<4294967281)&&s.data.toList.all λb=>decide (b.toNat<128)
def Ca (s:ByteArray):L_ ByteArray:=(Lib.fields s.data.toList).map λl=>⟨l.toArray⟩
def QpO {P:Program}{ρ:Ren}(Ly:Lays.n157 P ρ)(hi9:(P.info? (ρ.t 9)).map (fun i=>(i.zero,i.size,i.bytes))=X (X (.string ByteArray.empty),1,16))(hg:P.globalNamed "strings.asciiSpace" = X (ρ.g 0))(s:ByteArray)(hs:QqX s=true):
  QN P (ρ.f 157) [.s s] [] (Gives (.own 600 (Ca s).length) [(600,.arr 1 ((Ca s).map λx=>[V.s x]))]):=by
 intro S φ w vals hi hG;have hsz:=hi.size;obtain⟨v0,hv0⟩:∃v0,vals=#[v0]:=by
  obtain⟨l⟩:=vals
  match l,hsz with
  | [x],_=>exact⟨x,rfl⟩
 subst hv0;have ha:=(hi.args 0 v0 _ rfl rfl).s_inv;subst ha;unfold QqX at hs;rw[QJ,decide_eq_true_iff,XJ]at hs;obtain⟨hs1,hs2⟩:=hs;obtain⟨_,hl,hT⟩:=hG _ hg;have hno:∀o B,φ o≠X B:=λo B h=>by obtain⟨_,_,ob,hob⟩:=hi.dom o B h;cases hob
 refine(Any.strings_Fields_core Ly hi9 s w hs1 (λj b hb=>by simpa using hs2 b (Xt hb)) hT).mono ?_;rintro e w' ⟨rfl,rfl⟩;have hlen:(Lib.fields s.data.toList).length=(Ca s).length:=by unfold Ca;simp
 rw[hlen];generalize hO:Obj.cells ((Lib.fields s.data.toList).map λl=>Value.string ⟨l.toArray⟩).toArray (ρ.t 9)=O;have hme:(w.alloc O).heap[w.heap.size]? = X O:=World.alloc_heap_new _ _;have hold:∀k,k<w.heap.size->(w.alloc O).heap[k]? = w.heap[k]? := λk hk=>Below.heap_alloc w O k hk;have hsize:(w.alloc O).heap.size=w.heap.size+1:=by simp
 have hφ:∀o B,(ext (λ_=>none) 600 ⟨w.heap.size,(Ca s).length,1,[],0⟩) o=X B->o=600/\B=⟨w.heap.size,(Ca s).length,1,[],0⟩:=λo B h=>by
  unfold ext at h;split at h
  ·rename_i e;exact⟨e,(Option.some.inj h).symm⟩
  cases h
 have hhas:∀k,(⟨w.heap.size,(Ca s).length,1,[],0⟩:QQ).has k->k=w.heap.size:=λk hk=>Qbq hk;refine⟨_,.own 600 (Ca s).length,[(600,.arr 1 ((Ca s).map λx=>[V.s x]))],ext (λ_=>none) 600 ⟨w.heap.size,(Ca s).length,1,[],0⟩,rfl,⟨rfl,λc ob h=>h⟩,rfl,rfl,rfl,by rw[hsize];omega,λk hk _=>hold k hk,λo o' B B' k h1 h2 _ _=>by rw[(hφ o B h1).1,(hφ o' B' h2).1],λo B h=>?_,λo B k h hk=>?_,λo B k h hk _=>?_,⟨λo B h1 h2=>by obtain⟨rfl,_⟩:=hφ o B h2;omega,λo ob B _ h2 h3=>absurd h3 (hno o B)⟩,.own _ _ _ (Xa _ _ _) (Yx _),λo ob h=>?_⟩
 ·rw[(hφ o B h).1];exact⟨_,QB _ _ _⟩
 ·obtain⟨_,rfl⟩:=hφ o B h;have:=hhas k hk;rw[hsize];exact⟨by omega,λh=>by omega⟩
 ·obtain⟨_,rfl⟩:=hφ o B h;have:=hhas k hk;omega
 by_cases e:600=o
 ·subst e;rw[QB]at h;cases h;refine .inl ⟨_,Xa _ _ _,rfl,by simp,λr hr=>?_,_,_,by rw[hme,<-hO],by rw[<-hlen];simp,λi r hi' j v hj=>?_⟩
  ·obtain⟨x,_,rfl⟩:=YB.1 hr;exact⟨rfl,λv hv=>by simp at hv;subst hv;rfl⟩
  rw[Yn]at hi';obtain⟨x,hx,rfl⟩:=Yq.1 hi'
  match j,hj with
  | 0,hj=>
   cases hj;refine⟨.string x,?_,.s _⟩;unfold Ca at hx;rw[Yn]at hx;obtain⟨l,hl',rfl⟩:=Yq.1 hx;simp[hl']
  | j+1,hj=>simp at hj
 rw[Qw _ _ e]at h;cases h
section
variable {P:Program}{C:Xr}{σ:St}{o:Oper}
def LY (l:L_ Int):ByteArray:=l.foldl (λr n=>r.push (UInt8.ofNat n.toNat)) ByteArray.empty
def Stp.b2s {S T e d:Nat}{x:Operand}{l:L_ Int}{rows:L_ (L_ V)}(ho:o.op=.convert S T x)(hd:o.dst=X d)(hn:B_ d C)(hx:σ.opd x=X (.sl 1 rows))(hr:rows=l.map λx=>[V.i .u8 x])
  (hS:P.underlying S=X (.slice e)) (he:Qhx P e .u8=true) (hT:QfD P T=true):Stp P C o σ (σ.put d (.s (LY l))):=by
 subst hr;refine Stp.same hd hn λφ a w hr=>⟨.string (LY l),?_,.dat (.s _)⟩;rcases(hr.opd hx).sl_inv with⟨a',cap,hv,h0⟩|⟨b,off,cap,hv,_,_,_,c,hc,O⟩
 ·have:l=[]:=by simpa using h0
  subst this;simp only[execOp,ho,hv,Xj,run_convert_bytes_string w S T e a' 0 cap hS (QfY he) (Qbx hT)];cases a' with
  | none=>simp[Conv.bytesToString,Xw,LY,ByteArray.empty,ByteArray.emptyWithCapacity]
  | some p=>
   rw[run_bytesToString w p 0 cap [] (by rw[run_loadCells w p 0 (λ_=>undef) (λj hj=>absurd hj (Nat.not_lt_zero _))];rfl)];simp[Xw,LY]
 rw[EY]at hv hc;simp only[execOp,ho,hv,Xj,run_convert_bytes_string w S T e _ _ cap hS (QfY he) (Qbx hT)];rw[run_bytesToString w ⟨b,off,none⟩ l.length cap l ?_]
 ·simp[Xw,LY]
 rw[run_loadCells w ⟨b,off,none⟩ l.length c (λj hj=>by rw[Addr.add_lit];exact hc j (by omega))];congr 1;have:(List.range l.length).map c=l.map (Value.int .u8):=by
  apply List.ext_getElem?;intro i;rw[Yn,Yn];by_cases h:i<l.length
  ·rw[List.getElem?_range h,Qp h];have hd:=O i [V.i .u8 l[i]] (by rw[Yn,Qp h];rfl) 0 (.i .u8 l[i]) rfl;rw[show i*1+0=i by omega]at hd;have:=(QM.dat (φ:=φ) hd).i_inv;simp[this]
  rw[Zv (by simpa using h),Zv (by simpa using h)];rfl
 rw[this]
def Stp.storeNil {T b i off z zz:Nat}{x y:Operand}{rs h:L_ (L_ V)}{r:L_ V}(ho:o.op=.store T x y)(hd:o.dst=none)(hx:σ.opd x=X (.loc b i off))
  (hb:look σ.hp b=X (.arr z rs)) (hi:rs[i]? = X r) (hy:σ.opd y=X (.lit (.slice none 0 0))) (hs:Cv P T=X 1) (O:Nat.ble (off+1) z=true) (he:rs.set i (Wv r off [.sl zz []])=h):Stp P C o σ (σ.set b (.arr z h)):=
 Stp.storeAV (v:=.sl zz []) ho hd hx hb hi (λφ a w hr=>by rw[(hr.opd hy).lit_inv];exact .dat (.sl0 none 0 zz)) (.inl rfl) hs rfl rfl rfl O he
def Stp.max3 {d:Nat}{x y z:Operand}{k:IntKind}{m n q:Int}{ts:Array TypeId}(ho:o.op=.call { callee:=.builtin .max,args:=#[x,y,z],argTypes:=ts })(O:o.dst=X d)(hn:B_ d C)
  (hx:σ.opd x=X (.i k m)) (hy:σ.opd y=X (.i k n)) (hz:σ.opd z=X (.i k q)):Stp P C o σ (σ.put d (.i k (Vm.max2 (Vm.max2 m n) q))):=by
 refine Stp.same O hn λφ a w h=>⟨.int k (Vm.max2 (Vm.max2 m n) q),?_,.dat (.i _ _)⟩;simp[execOp,ho,(h.opd hx).i_inv,(h.opd hy).i_inv,(h.opd hz).i_inv,resolve,invoke,builtin,Builtin.max_,Builtin.max2,Vm.max2]
end
def Cl (w:World)(h:L_ Value)(vs:L_ V):Prop:=h.length=vs.length/\∀(j:Nat) c v,h[j]? = X c->vs[j]? = X v->XH (λk=>k<w.heap.size) w c v
def Cl.nil {w:World}:Cl w [] []:=⟨rfl,λj c v h _=>by simp at h⟩
def Cl.one {w:World}{c:Value}{v:V}(h:XH (λk=>k<w.heap.size) w c v):Cl w [c] [v]:=⟨rfl,λj c' v' O h2=>by
 match j with
 | 0=>simp at O h2;subst O;subst h2;exact h
 | j+1=>simp at O⟩
def Cl.append {w:World}{a b:L_ Value}{u v:L_ V}(h:Cl w a u)(h2:Cl w b v):Cl w (a++b) (u++v):=by
 refine⟨by simp[h.1,h2.1],λj c x hc O=>?_⟩;by_cases hj:j<a.length
 ·rw[Jo hj]at hc;rw[Jo (by rw[<-h.1];exact hj)]at O;exact h.2 j c x hc O
 rw[Kn (by omega)]at hc;rw[Kn (by rw[<-h.1];omega)]at O;rw[<-h.1]at O;exact h2.2 _ c x hc O
def Rd {H α:Type}(enc:TypeId×Value->H)(P:Program)(w:World)(N:Nat)(t:TypeId)(row:α->L_ V)(wf:α->DataW H->Prop):Prop:=
 ∀(fuel:Nat) (h:L_ Value) (d:DataW H) (O:L_ MemPlace),fuel<=N->DataW.trod enc P w 0 (λ_=>true) true fuel t h=X (d,O)->∃x,wf x d/\Cl w h (row x)
def YO {H α:Type}(enc:TypeId×Value->H)(P:Program)(w:World)(N:Nat)(off tot:Nat)(fs:L_ (Nat×Nat))(row:α->L_ V)(O:α->L_ (DataW H)->Prop):Prop:=
 ∀(fuel:Nat) (h:L_ Value) (xs:L_ (DataW H×L_ MemPlace)),fuel<=N->h.length=off+tot->(fs.mapM λf=>DataW.trod enc P w 0 (λ_=>true) true fuel f.1 ((h.drop f.2).take (P.cellsOf f.1)))=X xs->
  ∃x,O x (xs.map Prod.fst)/\Cl w (h.drop off) (row x)
section
variable {H:Type}{enc:TypeId×Value->H}{P:Program}{w:World}{N:Nat}{t:TypeId}
def Rd.mono {α:Type}{M:Nat}{row:α->L_ V}{O:α->DataW H->Prop}(h:Rd enc P w N t row O)(hM:M<=N):Rd enc P w M t row O:=λfuel cs d ps hf e=>h fuel cs d ps (XZ hf hM) e
def Rd.zero {α:Type}{row:α->L_ V}{h:α->DataW H->Prop}:Rd enc P w 0 t row h:=λfuel O d ps hf e=>by
 have:fuel=0:=by omega
 subst this;simp[DataW.trod]at e
def Rd.map {α β:Type}{row:α->L_ V}{wf:α->DataW H->Prop}{O:β->L_ V}{wf':β->DataW H->Prop}(g:α->β)(h:Rd enc P w N t row wf)(hr:∀x,row x=O (g x))(hw:∀x d,wf x d->wf' (g x) d):Rd enc P w N t O wf':=λfuel cs d ps hf e=>by
 obtain⟨x,h1,h2⟩:=h fuel cs d ps hf e;exact⟨g x,hw x d h1,by rw[<-hr];exact h2⟩
def Rd.int {k:IntKind}(ht:P.underlying t=X (.int k)):Rd enc P w N t (λn:Int=>[V.i k n]) (λn d=>(Lit.int k n).wf=true/\d=.lit (.int k n)):=by
 intro fuel cs d ps _ e;cases fuel with
 | zero=>simp[DataW.trod]at e
 | succ fuel=>
  simp only[DataW.trod,ht]at e;split at e
  all_goals first | (cases e;done) | (rename_i h;cases h;done) | skip
  rename_i h;cases h;split at e
  ·rename_i hc;obtain⟨rfl,O⟩:=hc;cases e;exact⟨_,⟨O,rfl⟩,Cl.one (.i _ _)⟩
  cases e
def Rd.string (ht:P.underlying t=X .string):Rd enc P w N t (λn:ByteArray=>[V.s n]) (λn d=>n.size<=maxLen/\d=.lit (.string n.data.toList)):=by
 intro fuel cs d ps _ e;cases fuel with
 | zero=>simp[DataW.trod]at e
 | succ fuel=>
  simp only[DataW.trod,ht]at e;split at e
  all_goals first | (cases e;done) | (rename_i O;cases O;done) | skip
  split at e
  ·rename_i h;cases e;exact⟨_,⟨h,rfl⟩,Cl.one (.s _)⟩
  cases e
def QxM {α:Type}{Q:Nat->α->Prop}:∀n:Nat,(∀i,i<n->∃x,Q i x)->∃l:L_ α,l.length=n/\∀i x,l[i]? = X x->Q i x:=by
 intro n
 induction n with
 | zero=>intro _;exact⟨[],rfl,λi x h=>by simp at h⟩
 | succ n ih=>
  intro h;obtain⟨l,h1,h2⟩:=ih λi hi=>h i (by omega);obtain⟨x,hx⟩:=h n (by omega);refine⟨l++[x],by simp[h1],λi y O=>?_⟩;by_cases hi:i<l.length
  ·rw[Jo hi]at O;exact h2 i y O
  have:=(QX.1 O).1;simp at this;have:i=l.length:=by omega
  subst this;simp at O;subst O;rw[h1];exact hx
def wfL {α:Type}(h:α->DataW H->Prop)(l:L_ α)(d:DataW H):Prop:=l.length<=maxLen/\((d=.nil/\l=[])\/∃es sp,d=.slice es sp/\es.length=l.length/\∀(i:Nat) x e,l[i]? = X x->es[i]? = X e->h x e)
def Rd.slice {α:Type}{e z:Nat}{row:α->L_ V}{wf:α->DataW H->Prop}(ht:P.underlying t=X (.slice e))(hz:P.cellsOf e=z)(hz0:0<z)(hrow:∀x,FB z (row x))(he:Rd enc P w N e row wf):
  Rd enc P w N t (λl:L_ α=>[V.sl z (l.map row)]) (wfL wf):=by
 subst hz;intro fuel cs d ps hN h;cases fuel with
 | zero=>simp[DataW.trod]at h
 | succ fuel=>
  simp only[DataW.trod,ht]at h;split at h
  all_goals first | (cases h;done) | (rename_i hq;cases hq;done) | skip
  ·cases h;exact⟨[],⟨MU _,.inl ⟨rfl,rfl⟩⟩,Cl.one (.sl0 _ _ _)⟩
  rename_i a len cap hq;cases hq;split at h
  ·rename_i hc;obtain⟨_,hlc,hcm⟩:=hc;obtain⟨O,hel,h⟩:=Tg.1 h;obtain⟨rest,_,h⟩:=Yq.1 h;have hlen:O.length=len:=by simpa using mapM_some_length hel
   have hat:∀i,i<len->∃y rc,O[i]? = X y/\w.cells? 0 (a.add (i*P.cellsOf e)) (P.cellsOf e)=X rc/\DataW.trod enc P w 0 (λ_=>true) true fuel e rc=X y:=λi hi=>by
    have:=mapM_some_get hel i i (by simp[hi]);obtain⟨y,hy⟩:∃y,O[i]? = X y:=⟨_,Qp (by omega)⟩;rw[hy]at this;obtain⟨rc,h1,h2⟩:=Tg.1 this;exact⟨y,rc,hy,h1,h2⟩
   obtain⟨l,hl,hQ⟩:=QxM (Q:=λi x=>∃y rc,O[i]? = X y/\w.cells? 0 (a.add (i*P.cellsOf e)) (P.cellsOf e)=X rc/\wf x y.1/\Cl w rc (row x)) len λi hi=>by
    obtain⟨y,rc,h1,h2,h3⟩:=hat i hi;obtain⟨x,h4,h5⟩:=he fuel rc y.1 y.2 (by omega) h3;exact⟨x,y,rc,h1,h2,h4,h5⟩
   have hd:d=.slice (O.map (·.1)) (rest.map (·.1)):=by cases h;rfl
   refine⟨l,⟨by omega,.inr ⟨_,_,hd,by simp[hl,hlen],λi x e' hx he'=>?_⟩⟩,Cl.one ?_⟩
   ·obtain⟨y,rc,h1,_,h3,_⟩:=hQ i x hx;rw[Yn,h1]at he';cases he';exact h3
   by_cases h0:len=0
   ·have:l=[]:=HO.1 (by omega);subst this;subst h0;exact .sl0 _ _ _
   obtain⟨b,off,spot⟩:=a;obtain⟨y0,rc0,_,h02,_⟩:=hat 0 (by omega);have hs:spot=none:=by
    obtain⟨_,h2,h3⟩:=World.cells?_some h02;have h4:=h3 0 hz0;obtain⟨c0,hc0⟩:∃c0,rc0[0]? = X c0:=⟨_,Qp (by omega)⟩;rw[hc0]at h4;simpa[Addr.add] using World.cell?_spot h4
   subst hs;have hb:b<w.heap.size:=by
    have hb:=World.cells?_block h02 hz0;rwa[WideShapes.add_plain]at hb
   have hcell:∀i,i<len->∀rc,w.cells? 0 ((⟨b,off,none⟩:Addr).add (i*P.cellsOf e)) (P.cellsOf e)=X rc->rc.length=P.cellsOf e/\∀j,j<P.cellsOf e->w.cell? ⟨b,off+(i*P.cellsOf e+j),none⟩=rc[j]? := λi hi rc h=>by
    obtain⟨_,h2,h3⟩:=World.cells?_some h;refine⟨h2,λj hj=>?_⟩;have:=h3 j hj;rw[WideShapes.add_plain,WideShapes.add_plain]at this;rw[<-Te];exact this
   refine .sl b off len cap (P.cellsOf e) (l.map row) (λj=>(w.cell? ⟨b,off+j,none⟩).getD undef) hb (by simp[hl]) hlc (λr hr=>by obtain⟨x,_,rfl⟩:=YB.1 hr;exact hrow x) (λj hj=>?_) (λi r hr j v hv=>?_)
   ·have hij:j / P.cellsOf e<len:=Nat.div_lt_of_lt_mul (by rw[Nat.mul_comm];exact hj);obtain⟨y,rc,_,h2,_⟩:=hat (j / P.cellsOf e) hij;obtain⟨h3,h4⟩:=hcell _ hij rc h2;have h5:=h4 (j % P.cellsOf e) (Nat.mod_lt _ hz0);rw[Nat.mul_comm (j / P.cellsOf e),Nat.div_add_mod]at h5;rw[h5];have:j % P.cellsOf e<rc.length:=by rw[h3];exact Nat.mod_lt _ hz0
    rw[Qp this];rfl
   rw[Yn]at hr;obtain⟨x,hx,rfl⟩:=Yq.1 hr;have hi:i<len:=by rw[<-hl];exact(QX.1 hx).1
   obtain⟨y,rc,_,h2,_,h3⟩:=hQ i x hx;obtain⟨h4,h5⟩:=hcell i hi rc h2;have hj:j<P.cellsOf e:=by rw[<-(hrow x).1];exact(QX.1 hv).1
   have h6:=h5 j hj;obtain⟨c,hc⟩:∃c,rc[j]? = X c:=⟨_,Qp (by omega)⟩;rw[hc]at h6;show XH _ w ((w.cell? ⟨b,off+(i*P.cellsOf e+j),none⟩).getD undef) v;rw[h6];exact h3.2 j c v hc hv
  cases h
def YO.nil {off:Nat}:YO enc P w N off 0 [] (λ_:Unit=>[]) (λ_ xs=>xs=[]):=λfuel O xs _ hl h=>by
 simp at h;subst h;exact⟨(),rfl,by rw[Qfx (by omega)];exact Cl.nil⟩
def YO.cons {α β:Type}(t off z:Nat){tot:Nat}{fs:L_ (Nat×Nat)}{O:α->L_ V}{row2:β->L_ V}{wf1:α->DataW H->Prop}{wf2:β->L_ (DataW H)->Prop}(hz:P.cellsOf t=z)
  (h1:Rd enc P w N t O wf1) (h2:YO enc P w N (off+z) tot fs row2 wf2):YO enc P w N off (z+tot) ((t,off)::fs) (λx:α×β=>O x.1++row2 x.2) (λx ds=>∃d r,ds=d::r/\wf1 x.1 d/\wf2 x.2 r):=by
 intro fuel cs xs hN hl h;subst hz;rw[List.mapM_cons]at h;obtain⟨y,hy,h⟩:=Tg.1 h;obtain⟨ys,hys,h⟩:=Tg.1 h;cases h;obtain⟨x1,a1,a2⟩:=h1 fuel _ y.1 y.2 hN hy;obtain⟨x2,b1,b2⟩:=h2 fuel cs ys hN (by omega) hys;refine⟨(x1,x2),⟨y.1,ys.map Prod.fst,rfl,a1,b1⟩,?_⟩;have:cs.drop off=(cs.drop off).take (P.cellsOf t)++cs.drop (off+P.cellsOf t):=by
  rw[<-List.drop_drop,List.take_append_drop]
 rw[this];exact a2.append b2
def QiK (P:Program)(t:TypeId)(fs:L_ (Nat×Nat))(tot:Nat):Bool:=match P.underlying t with
 | some (.struct gs)=>(gs.toList.map λf=>(f.type,f.offset))==fs&&P.cellsOf t==tot
 | _=>false
def Qj1 {t tot:Nat}{fs:L_ (Nat×Nat)}(h:QiK P t fs tot=true):∃gs,P.underlying t=X (.struct gs)/\(gs.toList.map λf=>(f.type,f.offset))=fs/\P.cellsOf t=tot:=by
 unfold QiK at h;split at h
 ·rename_i gs O;rw[QJ,beq_iff_eq,beq_iff_eq]at h;exact⟨gs,O,h.1,h.2⟩
 cases h
def Rd.struct {α:Type}{fs:L_ (Nat×Nat)}{tot:Nat}{row:α->L_ V}{wf:α->L_ (DataW H)->Prop}(hB:QiK P t fs tot=true)(hf:YO enc P w N 0 tot fs row wf):
  Rd enc P w (N+1) t row (λx d=>∃ds,d=.agg ds/\wf x ds):=by
 obtain⟨gs,ht,O,hc⟩:=Qj1 hB;intro fuel cs d ps hN h;cases fuel with
 | zero=>simp[DataW.trod]at h
 | succ fuel=>
  simp only[DataW.trod,ht]at h;split at h
  ·rename_i hl;obtain⟨xs,hxs,h⟩:=Yq.1 h;cases h;obtain⟨x,a1,a2⟩:=hf fuel cs xs (by omega) (by rw[hl,hc];omega) (by rw[<-O,List.mapM_map];exact hxs);exact⟨x,⟨_,rfl,a1⟩,a2⟩
  cases h
def QqY (P:Program)(t e n tot:Nat)(fs:L_ (Nat×Nat)):Bool:=match P.underlying t with
 | some (.array m e')=>m==n&&e'==e&&P.cellsOf t==tot&&((List.range n).map λi=>(e,i*P.cellsOf e))==fs
 | _=>false
def Qs2 {t e n tot:Nat}{fs:L_ (Nat×Nat)}(h:QqY P t e n tot fs=true):P.underlying t=X (.array n e)/\P.cellsOf t=tot/\((List.range n).map λi=>(e,i*P.cellsOf e))=fs:=by
 unfold QqY at h;split at h
 ·rename_i m e' hg;simp only[QJ,beq_iff_eq]at h;obtain⟨⟨⟨rfl,rfl⟩,h⟩,O⟩:=h;exact⟨hg,h,O⟩
 cases h
def Rd.array {α:Type}{e n tot:Nat}{fs:L_ (Nat×Nat)}{row:α->L_ V}{wf:α->L_ (DataW H)->Prop}(hB:QqY P t e n tot fs=true)(hf:YO enc P w N 0 tot fs row wf):
  Rd enc P w (N+1) t row (λx d=>∃ds,d=.agg ds/\wf x ds):=by
 obtain⟨ht,hc,O⟩:=Qs2 hB;intro fuel cs d ps hN h;cases fuel with
 | zero=>simp[DataW.trod]at h
 | succ fuel=>
  simp only[DataW.trod,ht]at h;split at h
  ·rename_i hl;obtain⟨xs,hxs,h⟩:=Yq.1 h;cases h;obtain⟨x,a1,a2⟩:=hf fuel cs xs (by omega) (by rw[hl,hc];omega) (by rw[<-O,List.mapM_map];exact hxs);exact⟨x,⟨_,rfl,a1⟩,a2⟩
  cases h
def BJ (k:IntKind)(n:Int):Prop:=k.min<=n/\n<=k.max
def okS (s:ByteArray):Prop:=s.size<=maxLen
def Lb {α:Type}(ok:α->Prop)(l:L_ α):Prop:=l.length<=maxLen/\∀x∈l,ok x
def QxN {k:IntKind}{n:Int}{d:DataW H}(h:(Lit.int k n).wf=true/\d=.lit (.int k n)):BJ k n:=by
 have:=h.1;simp only[Lit.wf,QJ,Qx]at this;exact this
def PG {α:Type}{ok:α->Prop}{l:L_ α}{d:DataW H}(h:wfL (λx _=>ok x) l d):Lb ok l:=by
 refine⟨h.1,λx hx=>?_⟩;rcases h.2 with⟨_,rfl⟩|⟨es,sp,_,h3,h4⟩
 ·simp at hx
 obtain⟨i,hi⟩:=En.1 hx;have O:i<es.length:=by rw[h3];exact(QX.1 hi).1
 exact h4 i x _ hi (Qp O)
def QvQ {w:World}{r:Reach}{base t tot:Nat}{v:Value}{fs:L_ (Nat×Nat)}(h:QiK P t fs tot=true)(hv:Value.okWide P w r base t v):∃O,v=.agg O:=by
 obtain⟨gs,h1,_⟩:=Qj1 h;obtain⟨O,h2,_⟩:=WideShapes.okWide_struct h1 hv;exact⟨O,h2⟩
def FV {z:Nat}{r:L_ V}(h:(Nat.beq r.length z&&r.all V.one)=true):FB z r:=by
 rw[QJ,XJ]at h;exact⟨Yj h.1,h.2⟩
end
section
variable {H:Type}{enc:TypeId×Value->H}{P:Program}
def QN.law {f:FuncId}{us:L_ V}{args:Array Value}{W:World}(h:QN P f us [] (Gives (.b true) []))(hG:Qaq P (λk=>k<W.heap.size) W)(hs:args.size=us.length)
  (ha:∀(j:Nat) x v,args[j]? = X x->us[j]? = X v->XH (λk=>k<W.heap.size) W x v):Calls P f args W λe w'=>e=.returned (.bool true)/\Below W.heap.size W w':=by
 refine(h (λk=>k<W.heap.size) (λ_=>none) W args ⟨λk O=>O,λ_ _ _ _ _ h=>(by cases h),λ_ _ h=>(by cases h),hs,λj x v h1 h2=>.dat (ha j x v h1 h2),λ_ _ h=>(by cases h)⟩ hG).mono ?_;rintro e w' ⟨x,v,hs',φ',rfl,⟨rfl,_⟩,out⟩;exact⟨by rw[out.rep.b_inv],out.os,out.tape,out.output,out.size,λk O=>out.kept k O λ_ _ h=>by cases h⟩
def QgD (hl:laidOutB P=true){W W':World}(hb:Below W.heap.size W W'):∀{ts:L_ TypeId} {vs:L_ Value} {ds:L_ (DataW H)} {ps:L_ MemPlace},(∀t∈ts,P.readableRec t=true/\t<P.types.size)->
  DataW.TrodAll enc P W 0 (λ_=>true) true ts vs ds ps->(∀x∈ps,x.block<W.heap.size)->DataW.TrodAll enc P W' 0 (λb=>decide (b<W.heap.size)) true ts vs ds ps
 | [],[],[],_,_,h,_=>h
 | t::ts,v::vs,d::ds,_,hr,⟨p,q,h1,h2,e⟩,O=>⟨p,q,Below.trod hl (hr t (XD)).1 (hr t (XD)).2 h1 hb (λx hx=>O x (by rw[e];exact NG _ hx)),
   QgD hl hb (λt ht=>hr t (Yb _ ht)) h2 (λx hx=>O x (by rw[e];exact QiB _ hx)),e⟩
def QvR {f:Func}{s:ChangeSpec}{O fresh:Bool}{W W':World}{args:Array Value}{ds:L_ (DataW H)}{before:L_ MemPlace}{tb:TypeId}(hl:laidOutB P=true)(hr:∀t∈f.params.toList,P.readableRec t=true/\t<P.types.size)
  (hW:DataW.Whole enc P f.params.toList s.vars O W args.toList ds [] before) (hv:s.vars=[]) (hb:Below W.heap.size W W') (hrt:f.resultTypes=#[tb]) (htb:P.underlying tb=X .bool)
  (hres:(s.fn H (ds++[])).results=[.lit (.bool true)]) (hargs:(s.fn H (ds++[])).args=ds) (hvars:(s.fn H (ds++[])).vars=[]):s.post enc P f O fresh false false W args (.bool true) W':=by
 have hW0:=hW;obtain⟨p,q,hA,hV,rfl,_,_⟩:=hW;have hlt:=hW0.lt;rw[hv]at hV;have hq:q=[]:=hV;subst hq;refine⟨ds,[],_,[],p,[],hW0,?_,?_,?_,?_,λh=>by cases h⟩
 ·rw[hres,hrt];exact⟨[],[],shut_bool htb true,rfl,rfl⟩
 ·rw[hargs];exact QgD hl hb hr hA λx hx=>hlt x (NG _ hx)
 ·rw[hvars,hv];rfl
 exact World.keptBut_mono (λp hp=>hp.elim) (hb.frame (λ_=>False))
def Cl.arg1 {w:World}{v:Value}{x:V}(O:v.cells.toList=[v])(h:Cl w v.cells.toList [x]):XH (λk=>k<w.heap.size) w v x:=h.2 0 v x (by rw[O];rfl) rfl
def Cl.argS {w:World}{O:Array Value}{vs:L_ V}(h:Cl w (Value.agg O).cells.toList vs):XH (λk=>k<w.heap.size) w (.agg O) (.agg vs):=by
 refine .agg O vs (by simpa[Value.cells] using h.1) λj x v hx hv=>h.2 j x v (by simpa[Value.cells] using hx) hv
def Rd.open {α:Type}{w:World}{t:TypeId}{row:α->L_ V}{O:α->DataW H->Prop}{v:Value}{d:DataW H}{p:L_ MemPlace}(h:∀N,Rd enc P w N t row O)(hd:DataW.Trod enc P w 0 (λ_=>true) true t v d p):∃x,O x d/\Cl w v.cells.toList (row x):=by
 obtain⟨n,hn⟩:=hd;exact h n n _ _ _ (Yx _) hn
end
section
variable {P:Program}{C:Xr}{Q:Exit->St->Prop}{σ:St}{ks:L_ Fr}{o:Oper}
def Qpp {σ':St}{φ φ':Prop}{d f:Nat}{vs us:L_ V}{M N:L_ (Nat×Nat)}{dead:L_ Nat}{ms:L_ Mode}{outs hsC:H_}{r:V}
  (hus:Tk (EW M) ms vs=X us) (hC:LE (EW M) (look σ.hp) M=X hsC)
  (e:cmV P σ φ d f vs M N dead ms outs r=X (σ',φ')):∃O r',Er σ M N dead outs=true/\(M.map Prod.fst).Nodup/\Vws σ.hp false false (Ar M) (λa b=>look M b=X a) vs us/\OX σ.hp false false (Ar M) (λa b=>look M b=X a) σ.hp M hsC/\
   OX [] false false [] (λc b=>look N b=X c) outs N O/\Vw [] false false [] (λc b=>look N b=X c) r r'/\σ'=(σ.after dead O).put d r':=by
 unfold cmV at e;replace e:=Yd e;obtain⟨e1,e⟩:=e;simp only[QJ]at e1;obtain⟨⟨h1,h2⟩,h3⟩:=e1;have h2:=GK.1 h2;have h3:=GK.1 h3;have inj:MX M=true/\MX N=true:=by
  simp only[Er,QJ]at h1;exact⟨h1.1.1.1,h1.1.1.2⟩
 have mM:∀a b,EW M a=X b->look M b=X a:=λa b h=>WH inj.1 (Lv h) h2;have mN:∀a b,EW N a=X b->look N b=X a:=λa b h=>WH inj.2 (Lv h) h3;simp only[hus,hC]at e;split at e
 ·rename_i O hN;split at e
  ·rename_i r' hr;cases e;exact⟨O,r',h1,h2,PF mM hus,Ub mM hC,Ub mN hN,SN mN hr,rfl⟩
  cases e
 cases e
def AK.callE {ι:Type}[Inhabited ι]{Φ:ι->Prop}{d f n:Nat}{ops:Array Oper}{rest:L_ Oper}{vs us:L_ V}{hsC:H_}(M N:L_ (Nat×Nat))(dead:L_ Nat)(ms:L_ Mode)(outs:ι->H_)(r:ι->V)(σ':ι->St)
  (hg:o.guard=none) (hCn:JF P C n) (hE:JG P C o σ f vs) (hd:o.dst=X d) (hn:B_ d C)
  (hus:Tk (EW M) ms vs=X us) (hC:LE (EW M) (look σ.hp) M=X hsC)
  (hc:QN P f us hsC λv hs=>∃x,Φ x/\Gives (r x) (outs x) v hs)
  (e:∀x,∃φ',cmV P σ True d f vs M N dead ms (outs x) (r x)=X (σ' x,φ'))
  (k:∀x,Φ x->AK P C Q (.o ops rest) ks (σ' x)):AK P C Q (.o ops (o::rest)) ks σ:=by
 intro a w ⟨φ,hr⟩;simp only[wpListIn,Region.wanted,hg,if_true];refine⟨λ_ _=>trivial,?_⟩;obtain⟨vals,hex,h1,h2⟩:=hE φ a w hr;rw[QiE hex,Oper.uponIn_enter];obtain⟨_,e0⟩:=e default;obtain⟨_,_,n1,n2,hv,O,_,_,_⟩:=Qpp hus hC e0;have hN0:=Names.of n1 n2;refine⟨(λh=>by cases h),Qhk ((hc _ _ w _ (Ins.of_vals hr h1 h2 hN0.injM hN0.param hv O) ((hr.glob hCn.g).mono λ_ h=>.inl h)).mono ?_)⟩;rintro e' w' ⟨x,v,hs',φ',rfl,⟨i,hΦ,rfl,hso⟩,hout⟩;obtain⟨_,ei⟩:=e i;obtain⟨hsN,r',n1,n2,_,_,hback,hr',hσ⟩:=Qpp hus hC ei;have hN:=Names.of n1 n2;obtain⟨h3,h4⟩:=hr.after hN hout hso (λc s h=>by
  obtain⟨ob',e1⟩:=O.get.2 c s h;obtain⟨s',ob,e2,e3,_⟩:=O.get.1 c ob' e1;rw[h]at e2;cases e2;exact⟨ob,e3⟩) hback
 refine k i hΦ _ _ ⟨OY φ M N dead φ',?_⟩;rw[hd,hσ];exact h3.put (XF hn) (h4 hr')
def Qpq {σ':St}{φ':Prop}{f:Nat}{vs us:L_ V}{M N:L_ (Nat×Nat)}{dead:L_ Nat}{ms:L_ Mode}{outs hsC:H_}{r:V}
  (hus:Tk (EW M) ms vs=X us) (hC:LE (EW M) (look σ.hp) M=X hsC)
  (e:rgV P σ f vs M N dead ms outs r=X (σ',φ')):∃O,Er σ M N dead outs=true/\(M.map Prod.fst).Nodup/\Vws σ.hp false false (Ar M) (λa b=>look M b=X a) vs us/\OX σ.hp false false (Ar M) (λa b=>look M b=X a) σ.hp M hsC/\
   OX [] false false [] (λc b=>look N b=X c) outs N O/\σ'=σ.after dead O:=by
 unfold rgV at e;replace e:=Yd e;obtain⟨e1,e⟩:=e;simp only[QJ]at e1;obtain⟨⟨h1,h2⟩,h3⟩:=e1;have h2:=GK.1 h2;have h3:=GK.1 h3;have inj:MX M=true/\MX N=true:=by
  simp only[Er,QJ]at h1;exact⟨h1.1.1.1,h1.1.1.2⟩
 have mM:∀a b,EW M a=X b->look M b=X a:=λa b h=>WH inj.1 (Lv h) h2;have mN:∀a b,EW N a=X b->look N b=X a:=λa b h=>WH inj.2 (Lv h) h3;simp only[hus,hC]at e;split at e
 ·rename_i O hN;cases e;exact⟨O,h1,h2,PF mM hus,Ub mM hC,Ub mN hN,rfl⟩
 cases e
def AK.rangeFE {ι:Type}[Inhabited ι]{Φ:ι->Prop}{g:Operand}{ps:Array Tmp}{assign body:Code}{f n:Nat}{fs cps:L_ V}(b:Nat)(ts:L_ Nat)(M N:L_ (Nat×Nat))(dead:L_ Nat)(ms:L_ Mode)(K:Nat->FC)(hCn:JF P C n)(hrnd:C.rnd=none)(hK:∀fn,K fn=⟨fn,ps,assign,body⟩)
  (hg:σ.opd g=X (.clo (.func f) fs cps)) (he:Qel P f=true) (hb:look σ.hp b=none) (hb2:Nat.ble 621 b=false)
  (H:∀l fn,∃(outs:ι->H_) (r:ι->V) (σ2:ι->St) (us:L_ V) (hsC:H_),Tk (EW M) ms (fs++(.clo (.yield l) [] []::cps))=X us/\LE (EW M) (look (σ.set b (.lp l (K fn) (snap ts σ.fr n) 0)).hp) M=X hsC/\
   QN P f us hsC (λv hs=>∃x,Φ x/\Gives (r x) (outs x) v hs)/\∀x,∃φ2 cs2 q,rgV P (σ.set b (.lp l (K fn) (snap ts σ.fr n) 0)) f (fs++(.clo (.yield l) [] []::cps)) M N dead ms (outs x) (r x)=X (σ2 x,φ2)/\look (σ2 x).hp b=X (.lp l (K fn) cs2 q)/\q≠1/\
   (Φ x->atJ (AK P C Q (.x .normal) ks ((σ2 x).kill b)) (λc=>AK P C Q (.c c) ks ((σ2 x).kill b)) (jmp q))):AK P C Q (.c (.rangeFunc g ps assign body)) ks σ:=by
 obtain rfl:K=λfn=>⟨fn,ps,assign,body⟩:=funext hK;have hpg:=hCn.g;replace hCn:=hCn.n;subst hCn;intro a w ⟨φ,hr⟩;refine wpIn_rangeFunc λfn _=>?_;obtain⟨outs,r,σ2,us,hsC,hus,hC,hcall,hx⟩:=H (w.heap.size+1) fn;obtain⟨xs,ys,hev,e1,e2,e3,e4⟩:=(hr.opd hg).clo_inv;have hb3:b<621:=BY (by rw[hb2];rfl);refine⟨w.heap.size+1,[{ target:=.collected w.heap.size,args:=#[] }],(w.alloc (.deferred (X []))).alloc (.loop { state:=.ready,pending:=none,fn,tmps:=a.tmps,params:=ps,assign,body,defers:=w.heap.size }),{ target:=.fn (.func f) ys,args:=xs++#[.func (.yield (w.heap.size+1)) #[] #[]] },(w.alloc (.deferred (X []))).alloc (.loop { state:=.ready,pending:=none,fn,tmps:=a.tmps,params:=ps,assign,body,defers:=w.heap.size }),f,(xs++#[.func (.yield (w.heap.size+1)) #[] #[]])++ys,(w.alloc (.deferred (X []))).alloc (.loop { state:=.ready,pending:=none,fn,tmps:=a.tmps,params:=ps,assign,body,defers:=w.heap.size }),?_,?_,λ_ _=>trivial,?_,(λh=>by cases h),?_⟩
 ·rw[show C.F.round=none from hrnd];exact run_enterLoop_outer _ _ _ _ _
 ·have hy:a.eval (.const (.func (.yield (w.heap.size+1)) #[] #[]))=.func (.yield (w.heap.size+1)) #[] #[]:=rfl;simp only[resolve,hev,Deferred.ofValue,Xw,List.map_toArray,EZ,List.map_nil,hy]
 ·exact MV he
 have hm:=hr.mark;have hN0:=hm.none_of_look hb;have hsz:(w.alloc (.deferred (X []))).heap.size=w.heap.size+1:=by simp
 have hR1:=hm.alloc (cap:=0) (z:=0) hb hb3 (ob:=.lp (w.heap.size+1) ⟨fn,ps,assign,body⟩ (snap ts σ.fr C.n) 0)
  (obj:=.loop { state:=.ready,pending:=none,fn,tmps:=a.tmps,params:=ps,assign,body,defers:=w.heap.size })
  ⟨a.tmps,w.heap.size,hsz,rfl,by rw[<-hsz];exact World.alloc_heap_new _ _,by rw[hr.tmps];simp[Vm.snap],λj x v hx hv=>(hm.snap j x v hx hv).mono (hm.mono_ext _ hN0) (hm.imm_alloc b 0 0 _ hN0)⟩
 rw[hsz]at hR1;generalize hσ1:σ.set b (.lp (w.heap.size+1) ⟨fn,ps,assign,body⟩ (snap ts σ.fr C.n) 0)=σ1 at hR1 hx hC;generalize hw1:(w.alloc (.deferred (X []))).alloc (.loop { state:=.ready,pending:=none,fn,tmps:=a.tmps,params:=ps,assign,body,defers:=w.heap.size })=w1 at hR1 ⊢;have hval:(xs++#[.func (.yield (w.heap.size+1)) #[] #[]])++ys=(xs.toList++(.func (.yield (w.heap.size+1)) #[] #[]::ys.toList)).toArray:=by apply Array.ext';simp
 rw[hval];obtain⟨_,_,_,ed,_⟩:=hx default;obtain⟨_,n1,n2,hv,hobs,_,_⟩:=Qpq hus hC ed;have hNm:=Names.of n1 n2;have hfr1:σ1.fr=σ.fr:=by rw[<-hσ1];rfl
 refine Qhk ((hcall _ _ w1 _ (Ins.of_vals (g:=false) (vs:=fs++(.clo (.yield (w.heap.size+1)) [] []::cps)) hR1 (by simp[e1,e2]) (λj x v hx hv=>?_) hNm.injM hNm.param hv hobs) ((hR1.glob hpg).mono λ_ h=>.inl h)).mono ?_)
 ·have up:=λ{x:Value} {v:V} (h:QM φ (QZ C φ w) w x v)=>(h.mono (φ':=φ) (I':=QZ C φ (w.alloc (.deferred (X [])))) (w':=w.alloc (.deferred (X []))) (λ_ _ h=>h) λk hk=>⟨⟨by have:=hk.1;simp;omega,hk.2⟩,Below.heap_alloc w _ k hk.1⟩).mono (hm.mono_ext ⟨w.heap.size+1,0,0,[],0⟩ hN0) (by
   have:=hm.imm_alloc b 0 0 (.loop { state:=.ready,pending:=none,fn,tmps:=a.tmps,params:=ps,assign,body,defers:=w.heap.size }) hN0;rw[hsz,hw1]at this;exact this)
  by_cases c1:j<fs.length
  ·rw[Jo (by simpa using (by omega:j<xs.size))]at hx;rw[Jo c1]at hv;exact up (e3 j x v (by simpa using hx) hv)
  rw[Kn (by simp;omega)]at hx;rw[Kn (by omega)]at hv;simp only[Array.length_toList]at hx;rw[e1]at hx;generalize j-fs.length=i at hx hv;cases i with
  | zero=>
   simp at hx hv;subst hx;subst hv;exact .clo (.yield _) #[] #[] [] [] rfl rfl (λj x v h=>by simp at h) (λj x v h=>by simp at h)
  | succ i=>simp only[Qfy]at hx hv;exact up (e4 i x v (by simpa using hx) hv)
 rintro e w' ⟨x,v,hs',φ',rfl,⟨i,hΦ,rfl,hso⟩,hout⟩;obtain⟨_,cs2,q,ei,hq,hq1,hk⟩:=hx i;replace hk:=hk hΦ;obtain⟨hsN,n1,n2,_,_,hback,hσ2⟩:=Qpq hus hC ei;have hNm:=Names.of n1 n2;obtain⟨k3,_⟩:=hR1.after hNm hout hso (λc s h=>by
  obtain⟨ob',e1⟩:=hobs.get.2 c s h;obtain⟨s',ob,e2,e3,_⟩:=hobs.get.1 c ob' e1;rw[h]at e2;cases e2;exact⟨ob,e3⟩) hback
 rw[<-hσ2]at k3;obtain⟨B,hB,tmps,D,f1,f2,f3,f4,f5⟩:=k3.lp hq;have hst:lst q≠.busy:=by
  match q,hq1 with
  | 0,_=>exact(by intro h;cases h)
  | 1,h=>exact absurd rfl h
  | k+2,_=>exact(by intro h;cases h)
 refine⟨_,_,run_endLoop f3 hst,?_⟩;have O:=k3.killTo hB (w':=w'.putObj (w.heap.size+1) (.loop { state:=.exhausted,pending:=jmp q,fn,tmps,params:=ps,assign,body,defers:=D })) rfl rfl rfl World.putObj_size (λk hk=>World.putObj_heap_other (by rw[<-f1];exact hk));simp only;cases hj:jmp q with
 | none=>rw[hj]at hk O;exact hk _ _ ⟨_,O⟩
 | some c=>rw[hj]at hk O;exact hk _ _ ⟨_,O⟩
def AK.rangeF {Q:Exit->St->Prop}{ks:L_ Fr}{g:Operand}{ps:Array Tmp}{assign body:Code}{f n:Nat}{fs cps:L_ V}(b:Nat)(ts:L_ Nat)(M N:L_ (Nat×Nat))(dead:L_ Nat)(ms:L_ Mode)(K:Nat->FC)(hCn:JF P C n)(hrnd:C.rnd=none)(hK:∀fn,K fn=⟨fn,ps,assign,body⟩)
  (hg:σ.opd g=X (.clo (.func f) fs cps)) (he:Qel P f=true) (hb:look σ.hp b=none) (hb2:Nat.ble 621 b=false)
  (H:∀l fn,∃outs r σ2 φ2 O q,rgV P (σ.set b (.lp l (K fn) (snap ts σ.fr n) 0)) f (fs++(.clo (.yield l) [] []::cps)) M N dead ms outs r=X (σ2,φ2)/\φ2/\look σ2.hp b=X (.lp l (K fn) O q)/\q≠1/\
   atJ (AK P C Q (.x .normal) ks (σ2.kill b)) (λc=>AK P C Q (.c c) ks (σ2.kill b)) (jmp q)):AK P C Q (.c (.rangeFunc g ps assign body)) ks σ:=by
 refine AK.rangeFE (ι:=Unit) (Φ:=λ_=>True) b ts M N dead ms K hCn hrnd hK hg he hb hb2 λl fn=>?_;obtain⟨outs,r,σ2,φ2,O,q,e,hφ2,hq,hq1,hk⟩:=H l fn;have e':=e;unfold rgV at e;replace e:=Yd e;obtain⟨_,e⟩:=e;split at e
 ·rename_i us hus;split at e
  ·rename_i hsC hC;split at e
   ·cases e;exact⟨λ_=>outs,λ_=>r,λ_=>_,us,hsC,hus,hC,hφ2.mono (λv hs h=>⟨(),trivial,h⟩),λ_=>⟨_,O,q,e',hq,hq1,λ_=>hk⟩⟩
   cases e
  cases e
 cases e
end
def Qs3 (n:Nat)(p:Int×Int):O_ (Nat⊕Empty):=X (.inl (n+1))
def Qkc : ∀(l:L_ (Int×Int)) (n:Nat),JY Qs3 n l=X (.inl (n+l.length)):=by
 intro l
 induction l with
 | nil=>intro n;rfl
 | cons p l h=>intro n;simp only[JY,Qs3,Qa,Sum.elim_inl];rw[h];simp[Nat.add_comm,Nat.add_left_comm]
def Qun (l:L_ (Int×Int))(n:Nat):IZ Qs3 n l=X (.inl (n+l.length)):=HQ.2 ⟨λO h=>by rw[Qkc,Qkc,h.length_eq],Qkc l n⟩
def Qs4 {l m:L_ Int}(h:l.Perm m):Kq l=Kq m:=by
 rw[QfZ,QfZ];refine List.Perm.eq_of_pairwise (le:=λx y:Int=>x<=y) ?_ ?_ ?_ ?_
 ·intro a b _ _ O h2;omega
 ·exact(List.pairwise_mergeSort (le:=λx y:Int=>decide (x<=y)) (λa b c O h2=>by simp at *;omega) (λa b=>by simp;omega) l).imp λh=>by simpa using h
 ·exact(List.pairwise_mergeSort (le:=λx y:Int=>decide (x<=y)) (λa b c O h2=>by simp at *;omega) (λa b=>by simp;omega) m).imp λh=>by simpa using h
 exact((List.mergeSort_perm l _).trans h).trans (List.mergeSort_perm m _).symm
def spZ : L_ Int:=(List.range 256).map λc=>if Lib.isSp (UInt8.ofNat c)then 1 else 0
def QrW {P:Program}{W:World}(h:Lib.TabIs P W "strings.asciiSpace" .u8 spZ):Qaq P (fun k=>k<W.heap.size) W:=fun g hg=>by
 have hc:∀c:Nat,c<256->W.cell? ⟨g,c,none⟩=X (.int .u8 (if Lib.isSp (UInt8.ofNat c)then 1 else 0)):=λc hc=>by
  rw[h.cell hg c (by simp only[spZ,EY,Qa4];exact hc)];simp[spZ,List.getD,hc]
 have h0:g<W.heap.size:=by
  have:=hc 0 (by decide);apply Nat.lt_of_not_le;intro hle;have e:W.heap[g]? = none:=Array.getElem?_eq_none hle;simp[World.cell?,e]at this
 exact⟨h0,h0,hc⟩
def QqZ {P:Program}{W:World}{l r:L_ (String×DataW Unit)}{g:Nat}{t e:TypeId}(n:Nat)(hl:l.drop n=("strings.asciiSpace",Lib.tabData .u8 spZ)::r)(hp:(l.all fun x=>x.2.handleName?.isNone)=true)
  (hg:P.globalNamed "strings.asciiSpace" = X g) (hty:(P.globals[g]?).map (·.type)=X t) (ht:P.underlying t=X (.array 256 e)) (he:P.underlying e=X (.int .u8)) (hce:P.cellsOf e=1) (hct:P.cellsOf t=256)
  (h:laidMetH P l W):Qaq P (λk=>k<W.heap.size) W:=by
 rw[MakeChecks.laidMetH_plain _ _ _ hp]at h;have key:∀(n:Nat) (l:L_ (String×DataW Unit)),laidMet P l W->laidMet P (l.drop n) W:=by
  intro n
  induction n with
  | zero=>intro l h;exact h
  | succ n ih=>
   intro l h;cases l with
   | nil=>exact h
   | cons x l=>exact ih l h.tail
 have h2:=key n l h;rw[hl]at h2;exact QrW (Lib.tabIs_of_head hg hty ht he hce hct h2)
variable {H:Type}{P:Program}
def Sz (P:Program)(t:Nat)(d:DataW H):Prop:=∀n∈d.weights P t,n<=reachBytes
def Sz.all {ts:L_ TypeId}{O:L_ (DataW H)}(h:(DataW.weightsEach P ts O).all (·<=reachBytes)=true){j:Nat}{t:Nat}{d:DataW H}(ht:ts[j]? = X t)(hd:O[j]? = X d):Sz P t d:=λn hn=>by
 have:=XJ.1 h n (DataW.weights_mem_each ht hd n hn);simpa using this
def Sz.field {t:Nat}{fs:Array Field}(hu:P.underlying t=X (.struct fs)){O:L_ (DataW H)}(h:Sz P t (.agg O)){j:Nat}{u:Nat}{d:DataW H}(ht:(fs.toList.map (·.type))[j]? = X u)(hd:O[j]? = X d):Sz P u d:=λn hn=>h n (by
 simp only[DataW.weights,hu];exact DataW.weights_mem_each ht hd n hn)
def Qsk {e:Nat}{d:DataW H}{n:Nat}(hn:n∈d.weights P e):∀{O:L_ (DataW H)},d∈O->n∈DataW.weightsAll P e O
 | [],h=>by cases h
 | x::O,h=>by
  simp only[DataW.weightsAll,XU];rcases XV.1 h with rfl | h
  ·exact .inl hn
  exact .inr (Qsk hn h)
def szL {α:Type}{t e:Nat}{ok sz:α->Prop}{l:L_ α}{d:DataW H}(hu:P.underlying t=X (.slice e))(h:wfL (λx d=>ok x/\(Sz P e d->sz x)) l d):Lb ok l/\(Sz P t d->l.length*P.bytesOf e<=reachBytes/\∀x∈l,sz x):=by
 obtain⟨h1,⟨rfl,rfl⟩|⟨es,sp,rfl,hl,hw⟩⟩:=h
 ·exact⟨⟨h1,λx h=>by cases h⟩,λ_=>⟨by simp,λx h=>by cases h⟩⟩
 have key:∀x∈l,∃d∈es,ok x/\(Sz P e d->sz x):=λx hx=>by
  obtain⟨i,hi,rfl⟩:=Ct.1 hx;have O:i<es.length:=by omega
  exact⟨es[i],Xn O,hw i _ _ (Qp hi) (Qp O)⟩
 refine⟨⟨h1,λx hx=>by obtain⟨_,_,h,_⟩:=key x hx;exact h⟩,λhs=>⟨?_,λx hx=>?_⟩⟩
 ·have:=hs ((es.length+sp.length)*P.bytesOf e) (by simp only[DataW.weights,hu];exact XD);rw[<-hl];exact XZ (Jx _ (Nat.le_add_right _ _)) this
 obtain⟨d,hd,_,h⟩:=key x hx;refine h λn hn=>hs n ?_;simp only[DataW.weights,hu];exact Yb _ (NG _ (Qsk hn hd))
def QxO {α:Type}{t e b:Nat}{ok:α->Prop}{l:L_ α}{d:DataW H}(hu:P.underlying t=X (.slice e))(hb:P.bytesOf e=b)(h:wfL (λx _=>ok x) l d):Lb ok l/\(Sz P t d->l.length*b<=reachBytes):=by
 subst hb;have:=szL (P:=P) (t:=t) (e:=e) (sz:=λ_=>True) hu (show wfL (λx d=>ok x/\(Sz P e d->True)) l d from⟨h.1,h.2.imp id λ⟨es,sp,O,h2,h3⟩=>⟨es,sp,O,h2,λi x e a b=>⟨h3 i x e a b,λ_=>trivial⟩⟩⟩);exact⟨this.1,λhs=>(this.2 hs).1⟩
section
variable {κ α:Type}[DecidableEq κ]
def Qmi {π:Type}{L:L_ (Nat×π)}{h:Array Nat}{y:Nat}:Jc L (h.push y)=(Jc L h).filter λq=>!(q.1==y):=by
 unfold Jc;rw[List.filter_filter];apply List.filter_congr;intro q _;rw[NC];simp[Array.mem_push];constructor
 ·rintro ⟨O,h2⟩;exact⟨h2,O⟩
 rintro ⟨O,h2⟩;exact⟨h2,O⟩
structure Qf0 (L L':List (Nat×(κ×α))) (seen:Array Nat):Prop where
 keys:L'.map (·.2.1)=L.map (·.2.1)
 left:Jc L' seen=Jc L seen
def Qf0.nil {L L':L_ (Nat×(κ×α))}{O:Array Nat}(h:Qf0 L L' O)(hq:Jc L' O=[]):Jc L O=[]:=by rw[<-h.left];exact hq
end
section
variable {P:Program}{C:Xr}{σ:St}{o:Oper}{κ α:Type}[DecidableEq κ]
end
def AK.know {P:Program}{C:Xr}{Q:Exit->St->Prop}{σ:St}{ks:L_ Fr}{pt:Pt}{p:Prop}(h:∀a w,R C σ a w->p)(k:p->AK P C Q pt ks σ):AK P C Q pt ks σ:=
 AK.weakenE (ι:=PLift p) (f:=λ_=>σ) (λa w O=>⟨⟨h a w O⟩,O⟩) λi=>k i.down
def AK.openMapK {P:Program}{C:Xr}{Q:Exit->St->Prop}{σ:St}{ks:L_ Fr}{κ α:Type}[DecidableEq κ]{K:TypeId}{e:κ->V}{val:κ->Value}{f:α->V}{lt:L_ (κ×α)}{b:Nat}{pt:Pt}(hk:DX P K e val)(hb:look σ.hp b=X (.map (QR e f lt)))
  (h:∀bm O (L:L_ (Nat×(κ×α))),(L.map (·.1)).Nodup->(L.map (·.2.1)).Nodup->(L.map Prod.snd).Perm lt->AK P C Q pt ks (σ.set b (.mapX bm O (LF e f L) (QR e f lt)))):AK P C Q pt ks σ:=by
 refine AK.openMap hk hb λbm O L h1 h2=>AK.know (p:=(lt.map Prod.fst).Nodup) (λa w ⟨φ,hr⟩=>?_) λhn=>h bm O L h1 ?_ h2
 ·rcases hr.heap b _ (St.look_set_same _ _ _)with⟨B,hB,_,M,_,_,_,g3,_⟩|⟨_,e'⟩
  ·exact(Ti hk.einj).1 g3
  exact e'.elim
 have:=(h2.map Prod.fst).nodup_iff.2 hn;rw[Qa5]at this;exact this
section
variable {P:Program}{C:Xr}{σ:St}{o:Oper}{A:Nat->Nat}
end
end Go.Vm
namespace Go.Vm
open Go Go.RowKit Go.Shelf Go.Lib Go.Proofs
open Option renaming some→X
variable {P:Program}{ρ:Ren}{n1 n2:String}{E z by_:Nat}{zv:Value}
def FW (I:Nat->Prop)(w:World)(z:Nat)(l:L_ Value)(rs:L_ (L_ V)):Prop:=l.length=rs.length*z/\(∀r∈rs,FB z r)/\(∀u∈l,u.oneCell'=true)/\∀(i:Nat) r,rs[i]? = X r->∀(j:Nat) v,r[j]? = X v->∃u,l[i*z+j]? = X u/\XH I w u v
def FW.mono {I I':Nat->Prop}{w w':World}(O:∀k,I k->I' k/\w'.heap[k]? = w.heap[k]?){l:L_ Value}{rs:L_ (L_ V)}(h:FW I w z l rs):FW I' w' z l rs:=
 ⟨h.1,h.2.1,h.2.2.1,λi r hi j v hj=>let ⟨u,hu,hD⟩:=h.2.2.2 i r hi j v hj;⟨u,hu,hD.mono O⟩⟩
section
variable {C:Xr}{σ:St}{o:Oper}
end
section
variable {P:Program}{C:Xr}{σ:St}{o:Oper}
def Stp.appSB {T U d e e' z z' by_ by' b n m:Nat}{x y:Operand}{rs us O:L_ (L_ V)}{zs:L_ V}(ho:o.op=.call { callee:=.builtin .append,args:=#[x,y],argTypes:=#[T,U] })
  (hd:o.dst=X d) (hn:B_ d C) (hx:σ.opd x=X (.own b n)) (hb:look σ.hp b=X (.arr z rs)) (hb1:Nat.ble 621 b=false) (hnl:rs.length=n)
  (hT:Yy P T=X (e,z,by_)) (hU:Yy P U=X (e',z',by')) (hz:Yc P e=X zs) (hzl:zs.length=z) (hz0:z≠0) (hb0:1<=by_) (h:decide ((n+us.length)*by_<=140737488355328)=true)
  (hy:σ.opd y=X (.sl z us)) (he:rs++us=O) (hm:n+us.length=m):Stp P C o σ (σ.app b z d m O):=
 Stp.appendB ho hd hn hx hb hb1 hnl hT hU hz hzl hz0 (XZ (Nat.le_mul_of_pos_right _ hb0) (Xd h)) (Xd h) (λφ a w hr=>(hr.opd hy).source_sl) he hm
def QiL {α β:Type}{us:L_ α}{y:L_ β}{n b L:Nat}(h:decide ((n+y.length)*b<=L)=true)(e:us.length=y.length):decide ((n+us.length)*b<=L)=true:=by rw[e];exact h
end
def R.frzVar {C:Xr}{σ:St}{a:Act}{w:World}(h:R C σ a w){p i b:Nat}{cs vs:L_ V}(hpb:Nat.beq p b=false)(hb1:Nat.ble 619 b=false)(hp:look σ.hp p=X (.var cs))(hi:cs[i]? = X (.own b 1))(hb:look σ.hp b=X (.var vs))
  (hd:vs.all (λv=>v.dat&&v.one)=true) (hc:(cs.set i (.b true)).all V.dat=true):R C ((σ.kill b).set p (.var (cs.set i (.sl vs.length [vs])))) a w:=by
 obtain⟨φ,hr⟩:=h;have hk:=hr.kill b;have hne:p≠b:=λe=>by subst e;rw[Nat.beq_refl]at hpb;cases hpb
 have hob:=JO _ _ _ hne hp;have hI:∀k,QZ C φ w k->QZ C (Gq φ b) w k/\w.heap[k]? = w.heap[k]? := λk hk=>⟨hk.of_del,rfl⟩;refine⟨_,hk.sayOb hob (λB hB _=>?_) (.inr λhn=>hn.elim)⟩;obtain⟨_,hB'⟩:=JP hB;obtain⟨xs,E,e1,e2,e0,e3⟩:Qqy φ (QZ C φ w) w B cs:=hr.block hB' hp;refine⟨xs,E,e1,by simpa using e2,e0,λj x v hx hv=>?_⟩;have hlt:=(QX.1 hi).1;by_cases c:i=j
 ·subst c;rw[Zw hlt]at hv;cases hv;refine .dat ?_;rcases(e3 i x _ hx hi).own_inv with⟨_,h1⟩|⟨O,hBb,hcap,rfl⟩
  ·cases h1
  obtain⟨ys,E2,f1,f2,f0,f3⟩:Qqy φ (QZ C φ w) w O vs:=hr.block hBb hb;have hIb:QZ C (Gq φ b) w O.b:=by
   refine⟨(hr.lt b O _ hBb O.self).1,λhlt=>?_,λo B' hB' e=>?_⟩
   ·have hb':b<619:=by
     rcases Wf b 619 with h | h
     ·exact h
     rw[MS h]at hb1;cases hb1
    have:=hr.new b O _ hBb O.self hb';omega
   obtain⟨h4,h5⟩:=JP hB';exact h4 (hr.inj o b B' O _ h5 hBb e O.self)
  rw[XJ]at hd;have hd1:∀v∈vs,v.dat=true/\v.one=true:=λv hv=>Bool.and_eq_true_iff.1 (hd v hv);refine .sl O.b O.off 1 O.cap vs.length _ (λj=>ys.getD (O.off+j) undef) hIb (by simp) hcap (λr hr'=>by rw[Da]at hr';subst hr';exact⟨rfl,λv hv=>(hd1 v hv).2⟩) (λj hj=>?_) (λi r hi j v hj=>?_)
  ·rw[f0,Ui];have:j<ys.size:=by omega
   simp[World.cell?,f1,Array.getD,this]
  cases i with
  | zero=>
   simp at hi;subst hi;have hj':=(QX.1 hj).1;have hy:ys[j]? = X ys[j]:=Ug (by omega);have:ys.getD (O.off+(0*vs.length+j)) undef=ys[j]:=by simp[f0,Qap,hy]
   rw[this];exact((f3 j _ v hy hj).toDat (hd1 v (Xt hj)).1).mono hI
  | succ i=>simp at hi
 rw[ND c]at hv;rw[XJ]at hc;have hv':v.dat=true:=hc v (Xt (by rw[ND c];exact hv));exact .dat (((e3 j x v hx hv).toDat hv').mono hI)
def AK.frzVar {P:Program}{C:Xr}{Q:Exit->St->Prop}{pt:Pt}{ks:L_ Fr}{σ:St}{p i b:Nat}{h vs:L_ V}(hpb:Nat.beq p b=false)(O:Nat.ble 619 b=false)(hp:look σ.hp p=X (.var h))(hi:h[i]? = X (.own b 1))(hb:look σ.hp b=X (.var vs))
  (hd:vs.all (λv=>v.dat&&v.one)=true) (hc:(h.set i (.b true)).all V.dat=true) (k:AK P C Q pt ks ((σ.kill b).set p (.var (h.set i (.sl vs.length [vs]))))):AK P C Q pt ks σ:=
 AK.weaken (λa w hR=>R.frzVar hR hpb O hp hi hb hd hc) k
section
variable {P:Program}{C:Xr}{o:Oper}{σ:St}
end
noncomputable abbrev V.Y:V:=.lit (.slice none 0 0)
end Go.Vm
