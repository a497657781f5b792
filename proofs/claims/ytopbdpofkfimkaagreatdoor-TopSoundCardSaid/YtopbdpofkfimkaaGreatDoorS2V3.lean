/- A part of the proof. -/
import Derived.Test.YtopbdpofkfimkaaGreatDoorS2V2
import Derived.Laws.StructEq
import Derived.Laws.Cover3
import Derived.RangeFuncIn
import Derived.Shelf.Sort.Plain
import Derived.Shelf.Slices.In.SortNone
import Derived.Laws.BytesString
import Derived.Shelf.Slices.CompactI
import Derived.Shelf.Strings.Fields
import Derived.Carry
import Derived.ReadAgain
import Derived.OpenShut
import GoSem.ClaimJoined
import Derived.Lib.LaidTab
import Derived.LaidMore
import Derived.MakeChecks
import Derived.Stop.LaidErr
import Derived.Stop.Joined
import Derived.SizedLaws
import Derived.Handed
import Derived.Shelf.Spec.SlicesInsertGrow
import Derived.Laws.StandIn
import Derived.Lib.Bytealg
set_option linter.all false
namespace Go.Vm
open Go Go.RowKit
open Option renaming some→X,none→n_
open Bool renaming true→t_,false→f_
structure Yt where
 kills:List Nat
 sets:List (Nat×Ob)
 put:Option (Nat×V)
def St.sets (Y:St):H_->St
 |[]=>Y|(o,ob)::r=>(Y.sets r).set o ob
def Yt.run (M:Yt)(Y:St):St:=match M.put with|none=>(Y.killL M.kills).sets M.sets|some (d,v)=>((Y.killL M.kills).sets M.sets).put d v
def GI (Y B:St):Prop:=(∀t v,look B.fr t=X v->look Y.fr t=X v)/\∀p ob,look B.hp p=X ob->look Y.hp p=X ob
def Vr {b:Nat}:∀(l:S_) (t:Nat),look (Ie b l) t=(look l t).map (V.kill b):=by
 intro l
 induction l with
 |nil=>intro t;rfl|cons p l h=>
  obtain⟨k,v⟩:=p;intro t;by_cases e:k=t
  ·subst e;rw[Ie,QB,QB];rfl
  rw[Ie,Qz _ _ e,Qz _ _ e];exact h t
def Nu {b:Nat}:∀(l:H_) (t:Nat),look (Ep b l) t=if t=b then n_ else(look l t).map (Ob.kill b):=by
 intro l t;by_cases h:t=b
 ·rw[if_pos h];cases hl:look (Ep b l) t with|none=>rfl|some ob=>obtain⟨O,_⟩:=Ju _ _ _ hl;exact absurd h O
 rw[if_neg h];cases hl:look l t with
 |none=>
  cases hk:look (Ep b l) t with|none=>rfl|some ob=>obtain⟨_,ob',O,_⟩:=Ju _ _ _ hk;rw[hl]at O;cases O
 |some ob=>exact Kj _ _ _ h hl
def GI.kill {Y B:St}(h:GI Y B)(b:Nat):GI (Y.kill b) (B.kill b):=by
 refine⟨λt v hv=>?_,λp ob O=>?_⟩
 ·have hv:look (Ie b B.fr) t=X v:=hv;show look (Ie b Y.fr) t=X v;rw[Vr]at hv ⊢;obtain⟨u,hu,rfl⟩:=Yf.1 hv;rw[h.1 t u hu];rfl
 have O:look (Ep b B.hp) p=X ob:=O;show look (Ep b Y.hp) p=X ob;rw[Nu]at O ⊢;split at O
 ·cases O
 rename_i hne;rw[if_neg hne];obtain⟨u,hu,rfl⟩:=Yf.1 O;rw[h.2 p u hu];rfl
def GI.killL : ∀{l:L_ Nat} {Y B:St},GI Y B->GI (Y.killL l) (B.killL l):=by
 intro l
 induction l with|nil=>intro Y B h;exact h|cons b l O=>intro Y B h;exact O (h.kill b)
def GI.set {Y B:St}(h:GI Y B)(o:Nat)(ob:Ob):GI (Y.set o ob) (B.set o ob):=by
 refine⟨h.1,λp u O=>?_⟩;by_cases e:p=o
 ·subst e;rw[St.look_set_same]at O ⊢;exact O
 rw[St.look_set_other _ _ (Ne.symm e)]at O ⊢;exact h.2 p u O
def GI.sets : ∀{l:H_} {Y B:St},GI Y B->GI (Y.sets l) (B.sets l):=by
 intro l
 induction l with|nil=>intro Y B h;exact h|cons p l O=>intro Y B h;exact(O h).set p.1 p.2
def GI.put {Y B:St}(h:GI Y B)(d:Nat)(v:V):GI (Y.put d v) (B.put d v):=by
 refine⟨λt u O=>?_,h.2⟩;have O:look ((d,v)::B.fr) t=X u:=O;show look ((d,v)::Y.fr) t=X u;by_cases e:d=t
 ·subst e;rw[QB]at O ⊢;exact O
 rw[Qz _ _ e]at O ⊢;exact h.1 t u O
def GI.run {Y B:St}(h:GI Y B)(M:Yt):GI (M.run Y) (M.run B):=by
 unfold Yt.run;split
 ·exact h.killL.sets
 exact h.killL.sets.put _ _
def Yt.keeps (M:Yt)(t:Nat)(v:V):Bool:=M.kills.all (λb=>v.free b)&&(match M.put with|none=>true|some (d,_)=>!(Nat.beq d t))
def Yt.keepsO (M:Yt)(p:Nat):Bool:=M.kills.all (λb=>!(Nat.beq b p))&&M.sets.all (λq=>!(Nat.beq q.1 p))
def Ob.keep1 (b:Nat):Ob->Bool
 |.var h=>h.all (V.freeC b)|.lp _ _ h _=>h.all (V.freeC b)|_=>t_
def QtO : ∀{l:L_ Nat} {Y:St} {t:Nat} {v:V},l.all (λb=>v.free b)=t_->look Y.fr t=X v->look (Y.killL l).fr t=X v:=by
 intro l
 induction l with
 |nil=>intro Y t v _ h;exact h|cons b l ih=>
  intro Y t v O h;rw[Sw,QL]at O;refine ih O.2 ?_;show look (Ie b Y.fr) t=X v;rw[Vr,h,Jh,V.kill,O.1];rfl
def Qo9 : ∀{l:H_} {Y:St},(Y.sets l).fr=Y.fr:=by
 intro l
 induction l with|nil=>intro Y;rfl|cons p l h=>intro Y;exact h
def Yt.keeps_look {M:Yt}{Y:St}{t:Nat}{v:V}(O:M.keeps t v=t_)(h:look Y.fr t=X v):look (M.run Y).fr t=X v:=by
 unfold Yt.keeps at O;rw[QL]at O;have h1:look ((Y.killL M.kills).sets M.sets).fr t=X v:=by rw[Qo9];exact QtO O.1 h
 unfold Yt.run;split
 ·exact h1
 rename_i d u hp;rw[hp]at O;have hne:d≠t:=Eo O.2;show look ((d,u)::_) t=X v;rw[Qz _ _ hne];exact h1
def Qpa : ∀{l:L_ Nat} {Y:St} {p:Nat},look Y.hp p=n_->look (Y.killL l).hp p=n_:=by
 intro l
 induction l with
 |nil=>intro Y p h;exact h|cons b l O=>
  intro Y p h;refine O ?_;show look (Ep b Y.hp) p=n_;rw[Nu,h];simp
def Qr6 : ∀{l:H_} {Y:St} {p:Nat},l.all (λq=>!(Nat.beq q.1 p))=t_->look Y.hp p=n_->look (Y.sets l).hp p=n_:=by
 intro l
 induction l with
 |nil=>intro Y p _ h;exact h|cons q l ih=>
  intro Y p O h;rw[Sw,QL]at O;show look ((Y.sets l).set q.1 q.2).hp p=n_;rw[St.look_set_other _ _ (Eo O.1)];exact ih O.2 h
def Yt.none_look {M:Yt}{Y:St}{p:Nat}(hk:M.sets.all (λq=>!(Nat.beq q.1 p))=t_)(h:look Y.hp p=n_):look (M.run Y).hp p=n_:=by
 have O:look ((Y.killL M.kills).sets M.sets).hp p=n_:=Qr6 hk (Qpa h);unfold Yt.run;split<;>exact O
def Ob.kill_keep {ob:Ob}{b:Nat}(h:ob.keep1 b=t_):ob.kill b=ob:=by
 cases ob with
 |var O=>
  simp only[Ob.keep1,XM]at h;simp only[Ob.kill,Ob.var.injEq]
  conv=>rhs;rw[<-List.map_id O]
  apply List.map_congr_left;intro v hv;simp only[V.killC,h v hv,Xi,id]
 |lp l K O q=>
  simp only[Ob.keep1,XM]at h;simp only[Ob.kill,Ob.lp.injEq,true_and,and_true]
  conv=>rhs;rw[<-List.map_id O]
  apply List.map_congr_left;intro v hv;simp only[V.killC,h v hv,Xi,id]
 |_=>rfl
def QqV : ∀{l:L_ Nat} {Y:St} {p:Nat} {ob:Ob},l.all (λb=>!(Nat.beq b p))=t_->l.all (λb=>ob.keep1 b)=t_->look Y.hp p=X ob->look (Y.killL l).hp p=X ob:=by
 intro l
 induction l with
 |nil=>intro Y p ob _ _ h;exact h|cons b l ih=>
  intro Y p ob O hp h;rw[Sw,QL]at O hp;refine ih O.2 hp.2 ?_;show look (Ep b Y.hp) p=X ob;rw[Nu,if_neg (Eo O.1).symm,h,Jh,Ob.kill_keep hp.1]
def Qr7 : ∀{l:H_} {Y:St} {p:Nat} {ob:Ob},l.all (λq=>!(Nat.beq q.1 p))=t_->look Y.hp p=X ob->look (Y.sets l).hp p=X ob:=by
 intro l
 induction l with
 |nil=>intro Y p ob _ h;exact h|cons q l ih=>
  intro Y p ob O h;rw[Sw,QL]at O;show look ((Y.sets l).set q.1 q.2).hp p=X ob;rw[St.look_set_other _ _ (Eo O.1)];exact ih O.2 h
def Yt.keepsO_look {M:Yt}{Y:St}{p:Nat}{ob:Ob}(O:M.keepsO p=t_)(hp:M.kills.all (λb=>ob.keep1 b)=t_)(h:look Y.hp p=X ob):look (M.run Y).hp p=X ob:=by
 unfold Yt.keepsO at O;rw[QL]at O;have h1:look ((Y.killL M.kills).sets M.sets).hp p=X ob:=Qr7 O.2 (QqV O.1 hp h);unfold Yt.run;split<;>exact h1
section
variable {P:Program}{C:Xs}{Q:Exit->St->Prop}{ops:Array Oper}{Y:St}{ks:L_ Fr}
def QuO (Inv:Array Bool->St->Prop)
  (step:∀O Y i o,O.size=ops.size->QiG ops O->i∈Region.ready .any ops O->ops[i]? = X o->Inv O Y->∃σ',JL P C ops o Y σ'/\Inv (O.setIfInBounds i t_) σ')
  (hord:QiF ops=t_) (hend:∀O Y,O.size=ops.size->(∀i,i<ops.size->O[i]? = X t_)->Inv O Y->∀a w,R C Y a w->up C Q .normal a w):
  ∀(fuel:Nat) (O:Array Bool) (a:Act) (w:World) (Y:St),((List.range ops.size).filter λi=>!(O[i]? == X t_)).length<=fuel->O.size=ops.size->QiG ops O->Inv O Y->R C Y a w->wpAnyIn C.F 0 P .any ops (up C Q) fuel O a w:=by
 intro fuel;have allOf:∀{O:Array Bool},O.size=ops.size->Region.ready .any ops O=[]->∀i,i<ops.size->O[i]? = X t_:=by
  intro O hs hr;apply Classical.byContradiction;intro h;have hex:∃i,i<ops.size/\O[i]? ≠ X t_:=by
   apply Classical.byContradiction;intro h';exact h λi hi=>Classical.byContradiction λhn=>h' ⟨i,hi,hn⟩
  obtain⟨k,h1,h2,h3⟩:=QrN ops.size hex;have:=QsY hord hs h1 h2 h3;rw[hr]at this;cases this
 induction fuel with
 |zero=>
  intro O a w Y hf hs hd hI hR;have hall:∀i,i<ops.size->O[i]? = X t_:=λi hi=>by
   have:=Np.1 (Nat.le_zero.1 hf);rw[List.filter_eq_nil_iff]at this;simpa using this i (Ea.2 hi)
  refine⟨?_,hend O Y hs hall hI a w hR⟩;rw[List.eq_nil_iff_forall_not_mem];intro i hi;obtain⟨o,ho,hl,_⟩:=(RW hs).1 hi;rw[hall i (Em.1 ho).1]at hl;cases hl
 |succ fuel ih=>
  intro O a w Y hf hs hd hI hR;refine⟨λhr=>hend O Y hs (allOf hs hr) hI a w hR,λi hi=>?_⟩;obtain⟨o,ho,hl,hdeps⟩:=(RW hs).1 hi;obtain⟨σ',hos,hI'⟩:=step O Y i o hs hd hi ho hI;have hin:i<O.size:=by rw[hs];exact(Em.1 ho).1
  have next:∀a' w',R C σ' a' w'->wpAnyIn C.F 0 P .any ops (up C Q) fuel (O.setIfInBounds i t_) a' w':=λa' w' hR'=>by
   refine ih _ a' w' σ' ?_ (by simpa using hs) (hd.set hs hi) hI' hR';have count:∀(l:L_ Nat),i∈l->(l.filter λj=>!((O.setIfInBounds i t_)[j]? == X t_)).length+1<=(l.filter λj=>!(O[j]? == X t_)).length:=by
    intro l;have le:∀(l:L_ Nat),(l.filter λj=>!((O.setIfInBounds i t_)[j]? == X t_)).length<=(l.filter λj=>!(O[j]? == X t_)).length:=by
     intro l
     induction l with
     |nil=>simp|cons x l ihl=>
      by_cases e:i=x
      ·subst e;rw[List.filter_cons_of_neg (by simp[QeW,hin]),List.filter_cons_of_pos (by rw[hl];simp)];simp;omega
      simp only[Bz,QrI e];split
      ·simpa using ihl
      exact ihl
    induction l with
    |nil=>intro h;cases h
    |cons x l ihl=>
     intro hm;by_cases e:i=x
     ·subst e;rw[List.filter_cons_of_neg (by simp[QeW,hin]),List.filter_cons_of_pos (by rw[hl];simp)];have:=le l;simp;omega
     have hm':i∈l:=by
      rcases Yw.1 hm with h|h
      ·exact absurd h e
      exact h
     have:=ihl hm';simp only[Bz,QrI e];split
     ·simpa using this
     exact this
   have:=count (List.range ops.size) (Ea.2 (by rw[<-hs];exact hin));omega
  unfold wpOpIn;simp only[ho];have:=hos a w hR (wpAnyIn C.F 0 P .any ops (up C Q) fuel (O.setIfInBounds i t_)) (up C Q) next;split
  ·rename_i hw;rw[if_pos hw]at this;exact this
  rename_i hw;rw[if_neg hw]at this;exact⟨λ_ _=>trivial,this⟩
def AK.regionInv {id:Nat}(Inv:Array Bool->St->Prop)(hmix:P.follows .mixedOrders=t_)
  (step:∀O Y i o,O.size=ops.size->QiG ops O->i∈Region.ready .any ops O->ops[i]? = X o->Inv O Y->∃σ',JL P C ops o Y σ'/\Inv (O.setIfInBounds i t_) σ')
  (hord:QiF ops=t_) (h0:Inv (Array.replicate ops.size f_) Y) (hend:∀O σ',O.size=ops.size->(∀i,i<ops.size->O[i]? = X t_)->Inv O σ'->AK P C Q (.x .normal) ks σ'):AK P C Q (.c (.region id ops t_)) ks Y:=by
 intro a w hR;refine wpIn_region_any hmix ?_;have hR':R C Y a { w with drawn:=w.drawn+1 }:=by
  obtain⟨Z,hr⟩:=hR;exact⟨Z,hr.step rfl rfl rfl (YK _) (λ_ _=>rfl)⟩
 refine QuO Inv step hord (λO σ' hs hall hI a w hR=>hend O σ' hs hall hI a w hR) ops.size (Array.replicate ops.size f_) a _ Y ?_ (by simp) ?_ h0 hR'
 ·exact Yx (Nq _ _) (by simp)
 intro i o _ h;simp[Array.getElem?_replicate]at h
end
inductive It where
 |add (x:DF) (fl nf:Bool)
 |tn (M:Yt)
def Xo : L_ It->L_ Yt
 |[]=>[]|.add _ _ _::r=>Xo r|.tn M::r=>M::Xo r
def RX (base:St):L_ Yt->St
 |[]=>base|M::r=>RX (M.run base) r
def QrD (x:DF)(M:Yt):Bool:=match x.ob with|none=>true|some ob=>M.keepsO x.d&&M.kills.all (λb=>ob.keep1 b)
def Zq (x:DF)(M:Yt):Bool:=M.keeps x.d x.v&&QrD x M
def alv (x:DF)(h:Bool)(ms:L_ Yt):Bool:=ms.all (λM=>M.keeps x.d x.v)
def Qe1 (x:DF)(h:Bool)(ms:L_ Yt):Bool:=ms.all (QrD x)
def SG (Y:St)(x:DF)(h:Bool)(ms:L_ Yt):Prop:=(alv x h ms=t_->look Y.fr x.d=X x.v)/\(Qe1 x h ms=t_->∀ob,x.ob=X ob->look Y.hp x.d=X ob)
def BB (ops:Array Oper):Nat->Nat->Nat->Bool
 |0,_,_=>f_|n+1,i,k=>match ops[k]? with|some o=>Ml o i||o.after.toList.any λe=>Region.binds .any e&&BB ops n i e.on|none=>f_
def Qnf (its:L_ It)(p:Nat):Bool:=match its[p]? with|some (.tn _)=>t_|_=>f_
def Qwc (ops:Array Oper)(its:L_ It):Bool:=(List.range its.length).all λi=>(List.range its.length).all λp=>!(Qnf its p)||Nat.beq p i ||
 (match its[i]? with|some (.add _ t_ f_)=>true|some _=>bif Nat.ble (p+1) i then BB ops 8 p i else BB ops 8 i p|none=>t_)
def Qci : L_ It->L_ Nat
 |[]=>[]|.add x _ _::r=>x.d::Qci r|.tn _::r=>Qci r
def Mo : L_ Yt->L_ Nat
 |[]=>[]|M::r=>match M.put with|some (d,_)=>d::Mo r|none=>Mo r
def Qr8 : L_ Yt->L_ Nat
 |[]=>[]|M::r=>M.sets.map Prod.fst++Qr8 r
def Qg6 : L_ It->L_ Nat
 |[]=>[]|.add x _ _::r=>match x.ob with|some _=>x.d::Qg6 r|none=>Qg6 r
 |.tn _::r=>Qg6 r
def ZM (ms:L_ Yt)(S:St):Bool:=S.fr.all (λp=>ms.all λM=>M.keeps p.1 p.2)&&S.hp.all (λp=>ms.all λM=>M.keepsO p.1&&M.kills.all (λb=>p.2.keep1 b))
def Qr9 (base:St)(its:L_ It):Bool:=UZ (Qci its)&&(Qci its).all (λd=>!(XK (keys base.fr) d)&&!(XK (Mo (Xo its)) d)) &&
 (Qg6 its).all (λd=>!(XK (keys base.hp) d))
def QtP (ops:Array Oper)(its:L_ It):Bool:=(List.range its.length).all λi=>(List.range its.length).all λp=>match its[i]? with
 |some (.add x _ _)=>match its[p]? with|some (.tn M)=>x.ob.isNone||!(XK (M.sets.map Prod.fst) x.d)||BB ops 8 i p|_=>t_
 |_=>t_
section
variable {P:Program}{C:Xs}{Q:Exit->St->Prop}{ops:Array Oper}{ks:L_ Fr}{base S:St}{its:L_ It}
def j0 (its:L_ It)(k:Nat):Nat:=(Xo (its.take k)).length
def QfH (P:Program)(C:Xs)(ops:Array Oper)(base S:St)(its:L_ It)(i:Nat)(o:Oper):It->Prop
 |.add x h O=>match h&&!O with|false=>∀Y,GI Y (RX base ((Xo its).take (j0 its i)))->(∀k y h O,its[k]? = X (.add y h O)->Ml o k=t_->SG Y y h (((Xo its).take (j0 its i)).drop (j0 its k)))->(x.ob.isSome=t_->look Y.hp x.d=n_)->JL P C ops o Y (Y.addF x)|true=>∀Y,GI Y S->(∀k y O,its[k]? = X (.add y t_ O)->Ml o k=t_->QgY Y y)->(x.ob.isSome=t_->look Y.hp x.d=n_)->JL P C ops o Y (Y.addF x)
 |.tn M=>∀Y,GI Y (RX base ((Xo its).take (j0 its i)))->(∀k y h O,its[k]? = X (.add y h O)->Ml o k=t_->SG Y y h (((Xo its).take (j0 its i)).drop (j0 its k)))->JL P C ops o Y (M.run Y)
def Mp {O:Array Bool}(hd:QiG ops O):∀(n:Nat) {i k:Nat},BB ops n i k=t_->O[k]? = X t_->O[i]? = X t_:=by
 intro n
 induction n with
 |zero=>intro i k h;cases h
 |succ n ih=>
  intro i k h hk;rw[BB]at h;split at h
  ·rename_i o ho;rw[WO]at h;rcases h with h|h
   ·simp only[Ml,No,QL]at h;obtain⟨e,he,hb,hon⟩:=h;have:=hd k o ho hk e (QlS.1 he) hb;rwa[Yr hon]at this
   simp only[No,QL]at h;obtain⟨e,he,hb,hm⟩:=h;exact ih hm (hd k o ho hk e (QlS.1 he) hb)
  cases h
def Qlz {O:Array Bool}(hs:O.size=ops.size)(hd:QiG ops O){n i k:Nat}(h:BB ops n i k=t_)(hk:k∈Region.ready .any ops O):O[i]? = X t_:=by
 obtain⟨o,ho,hl,hdeps⟩:=(RW hs).1 hk;cases n with
 |zero=>cases h
 |succ n=>
  rw[BB,ho]at h;dsimp only at h;rw[WO]at h;rcases h with h|h
  ·simp only[Ml,No,QL]at h;obtain⟨e,he,hb,hon⟩:=h;have:=hdeps e (QlS.1 he) hb;rwa[Yr hon]at this
  simp only[No,QL]at h;obtain⟨e,he,hb,hm⟩:=h;exact Mp hd n hm (hdeps e (QlS.1 he) hb)
def Bl : ∀{l m:L_ It},Xo (l++m)=Xo l++Xo m:=by
 intro l
 induction l with|nil=>intro m;rfl|cons x l h=>intro m;cases x<;>simp[Xo,h]
def Qng {ms h:L_ Yt}:∀{B:St},RX B (ms++h)=RX (RX B ms) h:=by
 induction ms with|nil=>intro B;rfl|cons M ms O=>intro B;exact O
def QtQ {its:L_ It}{i:Nat}{M:Yt}(h:its[i]? = X (.tn M)):(Xo its)[j0 its i]? = X M/\(Xo its).take (j0 its i+1)=(Xo its).take (j0 its i)++[M]:=by
 have O:=(QX.1 h).1;have e:its=its.take i++(.tn M::its.drop (i+1)):=by
  have:its.drop i=its[i]::its.drop (i+1):=Sx O;have h2:its[i]=.tn M:=by have:=QI O;rw[h]at this;exact(Option.some.inj this).symm
  rw[h2]at this;rw[<-this,List.take_append_drop]
 have e2:Xo its=Xo (its.take i)++(M::Xo (its.drop (i+1))):=by
  conv=>lhs;rw[e]
  rw[Bl];rfl
 unfold j0;rw[e2];refine⟨by simp,?_⟩;rw[List.take_append,List.take_append];simp[DW]
def QtR {Y:St}{x:DF}{M:Yt}(hk:Zq x M=t_)(h:QgY Y x):QgY (M.run Y) x:=by
 unfold Zq QrD at hk;rw[QL]at hk;refine⟨Yt.keeps_look hk.1 h.1,λob hob=>?_⟩;rw[hob]at hk;have O:=hk.2;dsimp only at O;rw[QL]at O;exact Yt.keepsO_look O.1 O.2 (h.2 ob hob)
def SG.of {Y:St}{x:DF}{O:Bool}{ms:L_ Yt}(h:QgY Y x):SG Y x O ms:=⟨λ_=>h.1,λ_=>h.2⟩
def SG.run {Y:St}{x:DF}{fl:Bool}{ms:L_ Yt}{M:Yt}(h:SG Y x fl ms):SG (M.run Y) x fl (ms++[M]):=by
 refine⟨λO=>?_,λO ob hob=>?_⟩
 ·simp only[alv,List.all_append,QL,Sw,List.all_nil,Bool.and_true]at O;exact Yt.keeps_look O.2 (h.1 (by simp only[alv];exact O.1))
 simp only[Qe1,List.all_append,QL,Sw,List.all_nil,Bool.and_true]at O;have h1:=h.2 (by simp only[Qe1];exact O.1) ob hob;have hk:=O.2;unfold QrD at hk;rw[hob]at hk;dsimp only at hk;rw[QL]at hk;exact Yt.keepsO_look hk.1 hk.2 h1
def Qyi {p:Nat}{M:Yt}(h:its[p]? = X (.tn M)):j0 its (p+1)=j0 its p+1:=by
 have O:=(QX.1 h).1;unfold j0;rw[Hl,h,Bl];simp[Xo]
def Qkd : ∀{a b:Nat},a<=b->j0 its a<=j0 its b:=by
 intro a b h;unfold j0;obtain⟨c,rfl⟩:=Nat.exists_eq_add_of_le h;rw[List.take_add,Bl];simp
def QtS {p i:Nat}{M:Yt}(h:its[p]? = X (.tn M))(O:p<i):j0 its p<j0 its i:=by
 have:=Qyi h;have:=Qkd (its:=its) (show p+1<=i from O);omega
def Qke : ∀{its:L_ It} {c:Nat},c<(Xo its).length->∃p M,its[p]? = X (.tn M)/\j0 its p=c:=by
 intro its
 induction its with
 |nil=>intro c h;simp[Xo]at h|cons it its ih=>
  intro c h;cases it with
  |add x fl=>
   obtain⟨p,M,O,h2⟩:=ih (c:=c) h;exact⟨p+1,M,by simpa using O,by simpa[j0,Xo] using h2⟩
  |tn M=>
   cases c with
   |zero=>exact⟨0,M,rfl,by simp[j0,Xo]⟩|succ c=>
    obtain⟨p,M',O,h2⟩:=ih (c:=c) (by simpa[Xo] using h);exact⟨p+1,M',by simpa using O,by simpa[j0,Xo] using h2⟩
def QlV {p:Nat}{M:Yt}(h:its[p]? = X (.tn M)):j0 its p<(Xo its).length:=(QX.1 (QtQ h).1).1
def GI.stable : ∀{ms:L_ Yt} {B S:St},ZM ms S=t_->GI B S->∀n,GI (RX B (ms.take n)) S:=by
 intro ms
 induction ms with
 |nil=>intro B S _ h n;simpa[RX] using h|cons M ms ih=>
  intro B S O h n;cases n with
  |zero=>exact h|succ n=>
   unfold ZM at O;rw[QL,XM,XM]at O;refine ih (B:=M.run B) ?_ ⟨λt v hv=>?_,λp ob hob=>?_⟩ n
   ·unfold ZM;rw[QL,XM,XM];exact⟨λp hp=>by have:=O.1 p hp;rw[Sw,QL]at this;exact this.2,λp hp=>by have:=O.2 p hp;rw[Sw,QL]at this;exact this.2⟩
   ·have:=O.1 (t,v) (Jv hv);rw[Sw,QL]at this;exact Yt.keeps_look this.1 (h.1 t v hv)
   have:=O.2 (p,ob) (Jv hob);rw[Sw,QL,QL]at this;exact Yt.keepsO_look this.1.1 this.1.2 (h.2 p ob hob)
def Qg7 : ∀{its:L_ It} {i:Nat} {x:DF} {fl nf:Bool},its[i]? = X (.add x fl nf)->x.d∈Qci its/\(x.ob.isSome=t_->x.d∈Qg6 its):=by
 intro its
 induction its with
 |nil=>intro i x fl nf h;simp at h|cons it its ih=>
  intro i x fl nf h;cases i with
  |zero=>
   simp at h;subst h;refine⟨Yd,λO=>?_⟩;rw[Qg6];split
   ·exact Yd
   rename_i he;rw[he]at O;cases O
  |succ i=>
   obtain⟨a,b⟩:=ih (i:=i) (by simpa using h);cases it with
   |add y fl' nf'=>
    refine⟨Yq _ a,λO=>?_⟩;rw[Qg6];split
    ·exact Yq _ (b O)
    exact b O
   |tn M=>exact⟨a,b⟩
def QlW : ∀{its:L_ It},(Qci its).Nodup->∀{i k:Nat} {x y:DF} {fl O nf nf':Bool},its[i]? = X (.add x fl nf)->its[k]? = X (.add y O nf')->x.d=y.d->i=k:=by
 intro its
 induction its with
 |nil=>intro _ i k x y fl O nf nf' h;simp at h|cons it its ih=>
  intro hn i k x y fl O nf nf' hi hk e;cases it with
  |tn M=>
   cases i with
   |zero=>simp at hi|succ i=>cases k with|zero=>simp at hk|succ k=>rw[ih hn (i:=i) (k:=k) (by simpa using hi) (by simpa using hk) e]
  |add z f g=>
   rw[Qci,Uv]at hn;cases i with
   |zero=>
    cases k with
    |zero=>rfl|succ k=>
     simp at hi;obtain⟨rfl,rfl,rfl⟩:=hi;exact absurd (by rw[e];exact(Qg7 (i:=k) (by simpa using hk)).1) hn.1
   |succ i=>
    cases k with
    |zero=>
     simp at hk;obtain⟨rfl,rfl,rfl⟩:=hk;exact absurd (by rw[<-e];exact(Qg7 (i:=i) (by simpa using hi)).1) hn.1
    |succ k=>rw[ih hn.2 (i:=i) (k:=k) (by simpa using hi) (by simpa using hk) e]
def Qwd {M:Yt}{B:St}{t:Nat}{v:V}(h:look (M.run B).fr t=X v):(∃u,look B.fr t=X u)\/∃u,M.put=X (t,u):=by
 have kill:∀{l:L_ Nat} {B:St} {v:V},look (B.killL l).fr t=X v->∃u,look B.fr t=X u:=by
  intro l
  induction l with
  |nil=>intro B v h;exact⟨v,h⟩|cons b l ih=>
   intro B v h;obtain⟨u,O⟩:=ih h;have O:look (Ie b B.fr) t=X u:=O;rw[Vr]at O;obtain⟨w,hw,_⟩:=Yf.1 O;exact⟨w,hw⟩
 unfold Yt.run at h;split at h
 ·rw[Qo9]at h;exact .inl (kill h)
 rename_i d u hp;by_cases e:d=t
 ·subst e;exact .inr ⟨u,hp⟩
 have h:look ((d,u)::((B.killL M.kills).sets M.sets).fr) t=X v:=h;rw[Qz _ _ e,Qo9]at h;exact .inl (kill h)
def QuP {M:Yt}{B:St}{p:Nat}{ob:Ob}(h:look (M.run B).hp p=X ob):(∃u,look B.hp p=X u)\/p∈M.sets.map Prod.fst:=by
 have kill:∀{l:L_ Nat} {B:St} {ob:Ob},look (B.killL l).hp p=X ob->∃u,look B.hp p=X u:=by
  intro l
  induction l with
  |nil=>intro B ob h;exact⟨ob,h⟩|cons b l ih=>
   intro B ob h;obtain⟨u,O⟩:=ih h;have O:look (Ep b B.hp) p=X u:=O;rw[Nu]at O;split at O
   ·cases O
   obtain⟨w,hw,_⟩:=Yf.1 O;exact⟨w,hw⟩
 have sets:∀{l:H_} {B:St} {ob:Ob},look (B.sets l).hp p=X ob->(∃u,look B.hp p=X u)\/p∈l.map Prod.fst:=by
  intro l
  induction l with
  |nil=>intro B ob h;exact .inl ⟨ob,h⟩|cons q l ih=>
   intro B ob h;by_cases e:q.1=p
   ·exact .inr (by rw[GC,e];exact Yd)
   have h:look ((B.sets l).set q.1 q.2).hp p=X ob:=h;rw[St.look_set_other _ _ e]at h;exact(ih h).imp id (Yq _)
 have h1:look ((B.killL M.kills).sets M.sets).hp p=X ob:=by
  unfold Yt.run at h;split at h<;>exact h
 rcases sets h1 with⟨u,O⟩|h2
 ·exact .inl (kill O)
 exact .inr h2
def Qwe : ∀{ms:L_ Yt} {B:St} {t:Nat} {v:V},look (RX B ms).fr t=X v->(∃u,look B.fr t=X u)\/t∈Mo ms:=by
 intro ms
 induction ms with
 |nil=>intro B t v h;exact .inl ⟨v,h⟩|cons M ms ih=>
  intro B t v h;rcases ih h with⟨u,O⟩|h
  ·rcases Qwd O with h|⟨u,hp⟩
   ·exact .inl h
   refine .inr ?_;rw[Mo,hp];exact Yd
  refine .inr ?_;rw[Mo];split
  ·exact Yq _ h
  exact h
def QuQ : ∀{ms:L_ Yt} {B:St} {p:Nat} {ob:Ob},look (RX B ms).hp p=X ob->(∃u,look B.hp p=X u)\/p∈Qr8 ms:=by
 intro ms
 induction ms with
 |nil=>intro B p ob h;exact .inl ⟨ob,h⟩|cons M ms ih=>
  intro B p ob h;rcases ih h with⟨u,O⟩|h
  ·rcases QuP O with h|h
   ·exact .inl h
   exact .inr (Zj _ h)
  exact .inr (List.mem_append_right _ h)
def Qs2 : ∀{ms:L_ Yt} {n t:Nat},t∈Mo (ms.take n)->t∈Mo ms:=by
 intro ms
 induction ms with
 |nil=>intro n t h;simpa using h|cons M ms O=>
  intro n t h;cases n with
  |zero=>simp[Mo]at h|succ n=>
   rw[List.take_succ_cons,Mo]at h;rw[Mo];split at h
   ·rcases Yw.1 h with rfl|h
    ·exact Yd
    exact Yq _ (O h)
   exact O h
def Qkf (its:L_ It)(J:Nat):Bool:=(List.range its.length).all λi=>match its[i]? with|some (.add x t_ h)=>(bif h then((Xo its).take J).drop (j0 its i)else(Xo its).take J).all (Zq x)|_=>t_
def Qwf (its:L_ It)(i:Nat):Bool:=match its[i]? with|some (.add _ t_ f_)=>t_|_=>f_
def Qpb : O_ V->V->Bool
 |some (.loc b i d),.loc h i' O=>Nat.beq b h&&Nat.beq i i'&&Nat.beq d O|_,_=>f_
def QtT {x:O_ V}{v:V}(h:Qpb x v=t_):x=X v:=by
 unfold Qpb at h;split at h
 ·simp only[QL]at h;rw[Yr h.1.1,Yr h.1.2,Yr h.2]
 cases h
def Qnh (n:Nat)(ops:Array Oper)(base:St)(its:L_ It)(i:Nat):Bool:=match its[i]?,ops[i]? with
 |some (.add x t_ f_),X o=>match o.op,o.dst,o.guard,x.ob with|.move (.tmp t),X d,n_,none=>Nat.beq d x.d&&Nat.ble (d+1) n&&Qpb (look base.fr t) x.v&&(Xo its).all (λM=>M.keeps t x.v)&&(Xo its).all (Zq x)|_,_,_,_=>f_
 |_,_=>f_
def Qyj (n:Nat)(ops:Array Oper)(base:St)(its:L_ It)(p:Nat):Bool:=Qnf its p&&(List.range its.length).all λi=>!Qwf its i||BB ops 8 i p||Qnh n ops base its i
def Qsa (n:Nat)(ops:Array Oper)(base:St)(its:L_ It)(S:St):Bool:=(Qkf its (Xo its).length&&ZM (Xo its) S) ||
 (List.range its.length).any λp=>Qyj n ops base its p&&(Qkf its (j0 its p)&&ZM ((Xo its).take (j0 its p)) S)
def QAg (base:St)(its:L_ It)(J:Nat)(h:Array Bool)(Y:St):Prop:=∃j,j<=(Xo its).length/\(∀p M,its[p]? = X (.tn M)->(h[p]? = X t_↔j0 its p<j))/\GI Y (RX base ((Xo its).take j))/\
 ∀i x O nf,its[i]? = X (.add x O nf)->(h[i]? = X t_->SG Y x O (((Xo its).take j).drop (j0 its i)))/\(h[i]? ≠ X t_->x.ob.isSome=t_->look Y.hp x.d=n_)/\(O=t_->h[i]? = X t_->(j<=J\/(Xo its).all (Zq x)=t_)->QgY Y x)
def Qwg (hord:QiF ops=t_):∀(n:Nat) {i k:Nat},BB ops n i k=t_->i<k:=by
 intro n
 induction n with
 |zero=>intro i k h;cases h
 |succ n ih=>
  intro i k h;rw[BB]at h;split at h
  ·rename_i o ho;have hk:k<ops.size:=(Em.1 ho).1;have h1:=hord;rw[QiF,XM]at h1;have h2:=h1 k (Ea.2 hk);simp only[ho,Jh,GG,XM]at h2;have lt:∀e∈o.after.toList,Region.binds .any e=t_->e.on<k:=λe O hb=>by
    have:=h2 e O;simp only[hb,DT,Bool.false_or]at this;exact JT this
   rw[WO]at h;rcases h with h|h
   ·simp only[Ml,No,QL]at h;obtain⟨e,O,hb,hon⟩:=h;rw[<-Yr hon];exact lt e O hb
   rw[No]at h;obtain⟨e,O,h⟩:=h;rw[QL]at h;exact Nat.lt_trans (ih h.2) (lt e O h.1)
  cases h
def AK.drawV {id n:Nat}(hmix:P.follows .mixedOrders=t_)(hlen:its.length=ops.size)(hord:QiF ops=t_)(hov:Qwc ops its=t_)(hap:Qr9 base its=t_)(hsv:QtP ops its=t_)(hN:C.n=n)(hfs:Qsa n ops base its S=t_)(hS:GI base S)
  (steps:∀i o it,ops[i]? = X o->its[i]? = X it->QfH P C ops base S its i o it)
  (k:∀Y,GI Y (RX base (Xo its))->(∀i x fl nf,its[i]? = X (.add x fl nf)->SG Y x fl ((Xo its).drop (j0 its i)))->AK P C Q (.x .normal) ks Y):AK P C Q (.c (.region id ops t_)) ks base:=by
 simp only[Qr9,QL,XM,AC]at hap;obtain⟨⟨hnd,hd1⟩,hd2⟩:=hap;have hnd:=WD.1 hnd;have ord:∀i p it M,its[i]? = X it->its[p]? = X (.tn M)->p≠i->(∀x,it≠.add x t_ f_)->(p<i->BB ops 8 p i=t_)/\(i<p->BB ops 8 i p=t_):=by
  intro i p it M hi hp hne hnf;have hil:=(QX.1 hi).1;have hpl:=(QX.1 hp).1;unfold Qwc at hov;rw[XM]at hov;have h1:=hov i (Ea.2 hil);rw[XM]at h1;have h2:=h1 p (Ea.2 hpl);have hm:Qnf its p=t_:=by unfold Qnf;rw[hp]
  have hb:Nat.beq p i=f_:=by cases hb:Nat.beq p i with|true=>exact absurd (Yr hb) hne|false=>rfl
  rw[hm,hb,hi]at h2;simp only[DT,Bool.false_or]at h2;have h3:(bif Nat.ble (p+1) i then BB ops 8 p i else BB ops 8 i p)=t_:=by
   cases it with
   |add x fl nf=>cases fl with
    |true=>cases nf with|false=>exact absurd rfl (hnf x)|true=>exact h2
    |false=>exact h2
   |tn M=>exact h2
  refine⟨λh=>?_,λh=>?_⟩
  ·rw[show Nat.ble (p+1) i=t_ from Zm h]at h3;exact h3
  have:Nat.ble (p+1) i=f_:=by cases hc:Nat.ble (p+1) i with|true=>have:=JT hc;omega|false=>rfl
  rw[this]at h3;exact h3
 have sets:∀(i p:Nat) (x:DF) (fl nf:Bool) (M:Yt),its[i]? = X (.add x fl nf)->its[p]? = X (.tn M)->x.ob.isSome=t_->x.d∈M.sets.map Prod.fst->BB ops 8 i p=t_:=by
  intro i p x fl nf M hi hp hob hmem;have hil:=(QX.1 hi).1;have hpl:=(QX.1 hp).1;unfold QtP at hsv;rw[XM]at hsv;have h1:=hsv i (Ea.2 hil);rw[XM]at h1;have h2:=h1 p (Ea.2 hpl);rw[hi,hp]at h2;dsimp only at h2;rw[Mm.2 hmem]at h2;have:x.ob.isNone=f_:=by cases hx:x.ob with
   |none=>rw[hx]at hob;cases hob
   |some=>rfl
  rw[this]at h2;simpa using h2
 have memSets:∀{ms:L_ Yt} {d:Nat},d∈Qr8 ms->∃(c:Nat) (M:Yt),ms[c]? = X M/\d∈M.sets.map Prod.fst:=by
  intro ms
  induction ms with
  |nil=>intro d h;cases h
  |cons N ms ih=>
   intro d h;rcases Jy.1 h with h|h
   ·exact⟨0,N,rfl,h⟩
   obtain⟨c,M,h1,h2⟩:=ih h;exact⟨c+1,M,by simpa using h1,h2⟩
 have lst:∃J,J<=(Xo its).length/\(J=(Xo its).length\/∃p M,its[p]? = X (.tn M)/\j0 its p=J/\∀i x,its[i]? = X (.add x t_ f_)->BB ops 8 i p=t_\/Qnh n ops base its i=t_)/\Qkf its J=t_/\ZM ((Xo its).take J) S=t_:=by
  unfold Qsa at hfs;rw[WO,QL,No]at hfs;rcases hfs with⟨h1,h2⟩|⟨p,_,h⟩
  ·exact⟨_,YK _,.inl rfl,h1,by rw[Hm];exact h2⟩
  rw[QL,QL]at h;obtain⟨hc,h1,h2⟩:=h;unfold Qyj at hc;rw[QL,XM]at hc;obtain⟨c1,c2⟩:=hc;obtain⟨M,hM⟩:∃M,its[p]? = X (.tn M):=by
   unfold Qnf at c1;split at c1
   ·exact⟨_,‹_›⟩
   cases c1
  refine⟨_,by have:=QlV hM;omega,.inr ⟨p,M,hM,rfl,λi x hi=>?_⟩,h1,h2⟩;have h3:=c2 i (Ea.2 (QX.1 hi).1);have hf:Qwf its i=t_:=by unfold Qwf;rw[hi]
  rw[hf]at h3;simpa using h3
 have late:∀{i:Nat} {x:DF},its[i]? = X (.add x t_ f_)->Qnh n ops base its i=t_->∃o t,ops[i]? = X o/\o.op=.move (.tmp t)/\o.dst=X x.d/\o.guard=n_/\x.ob=n_/\Nat.ble (x.d+1) C.n=t_/\look base.fr t=X x.v/\
   (Xo its).all (λM=>M.keeps t x.v)=t_/\(Xo its).all (Zq x)=t_:=by
  intro i x hi h;unfold Qnh at h;rw[hi]at h;split at h
  ·rename_i y o e1 e2;cases e1;split at h
   ·rename_i t d h1 h2 h3 h4;simp only[QL]at h;obtain⟨⟨⟨⟨a1,a2⟩,a3⟩,a4⟩,a5⟩:=h;have:=Yr a1;subst this;exact⟨o,t,e2,h1,h2,h3,h4,by rw[hN];exact a2,QtT a3,a4,a5⟩
   cases h
  cases h
 obtain⟨J,hJle,hJ,hfk,hsk⟩:=lst;have kept:∀{q:Nat} {y:DF} {nf:Bool} {c:Nat} {M:Yt},its[q]? = X (.add y t_ nf)->(nf=t_->j0 its q<=c)->c<J->(Xo its)[c]? = X M->Zq y M=t_:=by
  intro q y nf c M hq hnf hc hM;unfold Qkf at hfk;rw[XM]at hfk;have h1:=hfk q (Ea.2 (QX.1 hq).1);rw[hq]at h1;cases nf with
  |false=>
   replace h1:((Xo its).take J).all (Zq y)=t_:=h1;exact XM.1 h1 M (XG (i:=c) (by rw[List.getElem?_take_of_lt hc];exact hM))
  |true=>
   have h0:=hnf rfl;replace h1:(((Xo its).take J).drop (j0 its q)).all (Zq y)=t_:=h1;refine XM.1 h1 M (XG (i:=c-j0 its q) ?_);rw[WP,show j0 its q+(c-j0 its q)=c by omega,List.getElem?_take_of_lt hc];exact hM
 refine AK.regionInv (QAg base its J) hmix ?_ hord ?_ ?_
 ·intro O Y i o hs hd hi ho ⟨j,hj,hmu,hsub,hadd⟩;obtain⟨o',ho',hl,hdeps⟩:=(RW hs).1 hi;rw[ho]at ho';cases ho';have hio:i<ops.size:=(Em.1 ho).1;have hil:i<its.length:=by omega
  have hin:i<O.size:=by omega
  obtain⟨it,hit⟩:∃it,its[i]? = X it:=⟨_,QI hil⟩;have hnl:O[i]? ≠ X t_:=by rw[hl];simp
  have hst:=steps i o it ho hit;have depsL:∀{q:Nat},Ml o q=t_->O[q]? = X t_:=λhdep=>by
   simp only[Ml,No,QL]at hdep;obtain⟨e,he,hb,hon⟩:=hdep;have:=hdeps e (QlS.1 he) hb;rwa[Yr hon]at this
  have stage:(∀x,it≠.add x t_ f_)->j=j0 its i:=by
   intro hnf;apply Nat.le_antisymm
   ·rcases DX (j0 its i) j with hlt|h
    ·obtain⟨p,M,hp,hpj⟩:=Qke (its:=its) (c:=j0 its i) (by omega);have hpl:O[p]? = X t_:=(hmu p M hp).2 (by omega);rcases Nat.lt_trichotomy p i with h|h|h
     ·have:=QtS hp h;omega
     ·subst h;exact absurd hpl hnl
     have hm:=(ord i p it M hit hp (by omega) hnf).2 h;exact absurd (Mp hd 8 hm hpl) hnl
    exact h
   rcases Nat.eq_zero_or_pos (j0 its i)with h|h
   ·omega
   have hle:j0 its i<=(Xo its).length:=by
    have h1:=Qkd (its:=its) (show i<=its.length by omega);have h2:j0 its its.length=(Xo its).length:=by unfold j0;rw[Hm]
    omega
   obtain⟨p,M,hp,hpj⟩:=Qke (its:=its) (c:=j0 its i-1) (by omega);have hpi:p<i:=by
    rcases Nat.lt_trichotomy p i with h'|h'|h'
    ·exact h'
    ·subst h';omega
    have:=Qkd (its:=its) (Nat.le_of_lt h');omega
   have hm:=(ord i p it M hit hp (by omega) hnf).1 hpi;have:=(hmu p M hp).1 (Qlz hs hd hm hi);omega
  have setL:∀q,(O.setIfInBounds i t_)[q]? = X t_↔q=i\/O[q]? = X t_:=λq=>by
   by_cases e:i=q
   ·subst e;simp[QeW,hin]
   rw[QrI e];simp[Ne.symm e]
  cases it with
  |tn M=>
   have hjj:=stage λx e=>by cases e
   subst hjj;have hM:=QtQ hit;have hos:JL P C ops o Y (M.run Y):=hst Y hsub λq y fl nf hq hdep=>(hadd q y fl nf hq).1 (depsL hdep);have early:∀{q:Nat} {y:DF} {fl nf:Bool},its[q]? = X (.add y fl nf)->(fl=t_->nf=t_)->O[q]? = X t_->j0 its q<=j0 its i:=by
    intro q y fl nf hq hnf hql;rcases DX (j0 its i) (j0 its q)with hlt|hle
    ·exfalso;have hiq:i<q:=by
      rcases DX i q with h|h
      ·exact h
      have:=Qkd (its:=its) h;omega
     have hm:=(ord q i _ M hq hit (by omega) (λx e=>by cases e;exact absurd (hnf rfl) (by simp))).1 hiq;exact absurd (Mp hd 8 hm hql) hnl
    exact hle
   have flt:∀{q:Nat} {y:DF} {fl nf:Bool},fl=t_->O[q]? = X t_->its[q]? = X (.add y fl nf)->(j0 its i+1<=J\/(Xo its).all (Zq y)=t_)->QgY (M.run Y) y:=by
    intro q y fl nf hfl hql hq hz;subst hfl;have h1:=(hadd q y t_ nf hq).2.2 rfl hql (hz.imp_left λh=>by omega);refine QtR ?_ h1;rcases hz with hz|hz
    ·exact kept hq (λh=>by subst h;exact early hq (λ_=>rfl) hql) (by omega) hM.1
    exact XM.1 hz M (XG hM.1)
   refine⟨_,hos,j0 its i+1,by have:=QlV hit;omega,λp M' hp=>?_,?_,λq y fl nf hq=>⟨λhql=>?_,λhql hob=>?_,λhfl hql hz=>?_⟩⟩
   ·rw[setL];constructor
    ·rintro (rfl|h)
     ·omega
     have:=(hmu p M' hp).1 h;omega
    intro h;rcases DX (j0 its p) (j0 its i)with h1|h1
    ·exact .inr ((hmu p M' hp).2 h1)
    left;rcases Nat.lt_trichotomy p i with h'|h'|h'
    ·have:=QtS hp h';omega
    ·exact h'
    have:=QtS hit h';omega
   ·rw[hM.2,Qng];exact hsub.run M
   ·rcases(setL q).1 hql with rfl|hql
    ·rw[hit]at hq;cases hq
    rcases DX (j0 its i) (j0 its q)with hlt|hle
    ·by_cases hf:fl=t_/\nf=f_
     ·obtain⟨rfl,rfl⟩:=hf;refine SG.of (flt rfl hql hq ?_);rcases hJ with h|⟨p,M',hp,hpj,hall⟩
      ·have h1:=Qkd (its:=its) (show q<=its.length by have:=(QX.1 hq).1;omega);have h2:j0 its its.length=(Xo its).length:=by unfold j0;rw[Hm]
       exact .inl (by omega)
      rcases hall q _ hq with hm|hl
      ·have:=Qkd (its:=its) (Nat.le_of_lt (Qwg hord 8 hm));exact .inl (by omega)
      obtain⟨_,_,_,_,_,_,_,_,_,_,h⟩:=late hq hl;exact .inr h
     exfalso;have:=early hq (λh=>by cases nf with|true=>rfl|false=>exact absurd ⟨h,rfl⟩ hf) hql;omega
    rw[hM.2,List.drop_append_of_le_length (by simp;have:=QlV hit;omega)];exact((hadd q y fl nf hq).1 hql).run
   ·have hqi:q≠i:=λe=>by subst e;rw[hit]at hq;cases hq
    have hql':O[q]? ≠ X t_:=λh=>hql ((setL q).2 (.inr h));refine Yt.none_look ?_ ((hadd q y fl nf hq).2.1 hql' hob);rw[XM];intro r hr;cases hb:Nat.beq r.1 y.d with
    |false=>rfl|true=>
     have hm:=sets q i y fl nf M hq hit hob (by rw[<-Yr hb];exact List.mem_map_of_mem hr);exact absurd (Qlz hs hd hm hi) hql'
   refine flt hfl ((setL q).1 hql |>.resolve_left λe=>by subst e;rw[hit]at hq;cases hq) hq hz
  |add x fl nf=>
   have hfresh:x.ob.isSome=t_->look Y.hp x.d=n_:=(hadd i x fl nf hit).2.1 hnl;have hos:JL P C ops o Y (Y.addF x):=by
    have hB:¬(fl=t_/\nf=f_)->(∀Y,GI Y (RX base ((Xo its).take (j0 its i)))->(∀k y fl nf,its[k]? = X (.add y fl nf)->Ml o k=t_->SG Y y fl (((Xo its).take (j0 its i)).drop (j0 its k)))->(x.ob.isSome=t_->look Y.hp x.d=n_)->JL P C ops o Y (Y.addF x))->JL P C ops o Y (Y.addF x):=λhne hst=>by
     have hjj:=stage λy e=>by cases e;exact hne ⟨rfl,rfl⟩
     subst hjj;exact hst Y hsub (λq y fl nf hq hdep=>(hadd q y fl nf hq).1 (depsL hdep)) hfresh
    cases fl with
    |true=>cases nf with
     |false=>
      have h1:GI base S:=hS;have hZ:j<=J\/Qnh n ops base its i=t_:=by
       rcases hJ with h|⟨p,M,hp,hpj,hall⟩
       ·exact .inl (by omega)
       rcases hall i x hit with hm|hl
       ·rcases DX J j with hlt|h
        ·exact absurd (Mp hd 8 hm ((hmu p M hp).2 (by omega))) hnl
        exact .inl h
       exact .inr hl
      rcases hZ with hZ|hl
      ·have h2:GI (RX base ((Xo its).take j)) S:=by
        have h4:=GI.stable hsk h1 j;rwa[List.take_take,HZ hZ]at h4
       exact hst Y ⟨λt v h=>hsub.1 t v (h2.1 t v h),λp ob h=>hsub.2 p ob (h2.2 p ob h)⟩ (λq y nf hq hdep=>(hadd q y t_ nf hq).2.2 rfl (depsL hdep) (.inl hZ)) hfresh
      obtain⟨o',t,e1,e2,e3,e4,e5,e6,e7,e8,_⟩:=late hit hl;rw[ho]at e1;cases e1;have hB2:GI base ⟨[(t,x.v)],[]⟩:=by
       refine⟨λt' v h=>?_,λ_ _ h=>?_⟩
       ·by_cases e:t=t'
        ·subst e;rw[QB]at h;cases h;exact e7
        rw[Qz _ _ e]at h;cases h
       cases h
      have hK2:ZM (Xo its) ⟨[(t,x.v)],[]⟩=t_:=by
       unfold ZM;simp only[Sw,List.all_nil,Bool.and_true];exact e8
      have hS2:GI (RX base ((Xo its).take j)) ⟨[(t,x.v)],[]⟩:=GI.stable hK2 hB2 j;have hv:look Y.fr t=X x.v:=hsub.1 t x.v (hS2.1 t x.v (QB _ _ _));have:=JL.run (ops:=ops) e4 (Stp.move (P:=P) (C:=C) e2 e3 e6 hv);unfold St.addF;rw[e5];exact this
     |true=>exact hB (λe=>by cases e.2) hst
    |false=>exact hB (λe=>by cases e.1) hst
   obtain⟨hmd,hmo⟩:=Qg7 hit;have frK:∀t v,t≠x.d->look Y.fr t=X v->look (Y.addF x).fr t=X v:=by
    intro t v hne h;unfold St.addF;split
    ·show look ((x.d,x.v)::Y.fr) t=X v;rw[Qz _ _ (Ne.symm hne)];exact h
    show look ((x.d,x.v)::Y.fr) t=X v;rw[Qz _ _ (Ne.symm hne)];exact h
   have hpK:∀p,(p≠x.d\/x.ob=n_)->look (Y.addF x).hp p=look Y.hp p:=by
    intro p hne;unfold St.addF;split
    ·rfl
    rename_i ob hob;rcases hne with hne|hne
    ·exact Y.look_set_other _ (Ne.symm hne)
    rw[hob]at hne;cases hne
   refine⟨_,hos,j,hj,λp M hp=>?_,⟨λt v h=>?_,λp ob h=>?_⟩,λq y fl' nf' hq=>⟨λhql=>?_,λhql hob=>?_,λhfl hql hz=>?_⟩⟩
   ·rw[setL,<-hmu p M hp];have:p≠i:=λe=>by subst e;rw[hit]at hp;cases hp
    simp[this]
   ·refine frK t v (λe=>?_) (hsub.1 t v h);subst e;have h1:=hd1 _ hmd;rcases Qwe h with⟨u,hu⟩|h2
    ·rw[Qcb hu]at h1;cases h1.1
    rw[Mm.2 (Qs2 h2)]at h1;cases h1.2
   ·have hne:p≠x.d\/x.ob=n_:=by
     cases hob:x.ob with
     |none=>exact .inr rfl|some ob'=>
      refine .inl λe=>?_;subst e;have hob':x.ob.isSome=t_:=by rw[hob];rfl
      have h1:=hd2 _ (hmo hob');rcases QuQ h with⟨u,hu⟩|h2
      ·rw[Qcb hu]at h1;cases h1
      obtain⟨c,M,h3,h4⟩:=memSets h2;have hc:c<j:=by
       have:=(QX.1 h3).1;simp at this;omega
      have h3':(Xo its)[c]? = X M:=by rw[List.getElem?_take_of_lt hc]at h3;exact h3
      obtain⟨p',M',hp',hpc⟩:=Qke (its:=its) (c:=c) (QX.1 h3').1;have h5:=(QtQ hp').1;rw[hpc,h3']at h5;cases h5;have hm:=sets i p' x fl nf M hit hp' hob' h4;exact absurd (Mp hd 8 hm ((hmu p' M hp').2 (by omega))) hnl
    rw[hpK p hne];exact hsub.2 p ob h
   ·by_cases e:q=i
    ·subst e;rw[hit]at hq;cases hq;refine SG.of ⟨?_,λob hob=>?_⟩
     ·unfold St.addF;split<;>exact QB _ _ _
     unfold St.addF;rw[hob];exact QB _ _ _
    have hql':O[q]? = X t_:=((setL q).1 hql).resolve_left e;obtain⟨h1,h2⟩:=(hadd q y fl' nf' hq).1 hql';have hne:y.d≠x.d:=λh=>e (QlW hnd hq hit h);exact⟨λhal=>frK _ _ hne (h1 hal),λhal ob hob=>by rw[hpK _ (.inl hne)];exact h2 hal ob hob⟩
   ·have e:q≠i:=λe=>hql ((setL q).2 (.inl e));have hql':O[q]? ≠ X t_:=λh=>hql ((setL q).2 (.inr h));have hne:y.d≠x.d:=λh=>e (QlW hnd hq hit h);rw[hpK _ (.inl hne)];exact(hadd q y fl' nf' hq).2.1 hql' hob
   by_cases e:q=i
   ·subst e;rw[hit]at hq;cases hq;refine⟨?_,λob hob=>?_⟩
    ·unfold St.addF;split<;>exact QB _ _ _
    unfold St.addF;rw[hob];exact QB _ _ _
   have hql':O[q]? = X t_:=((setL q).1 hql).resolve_left e;obtain⟨h1,h2⟩:=(hadd q y fl' nf' hq).2.2 hfl hql' hz;have hne:y.d≠x.d:=λh=>e (QlW hnd hq hit h);exact⟨frK _ _ hne h1,λob hob=>by rw[hpK _ (.inl hne)];exact h2 ob hob⟩
 ·refine⟨0,Nat.zero_le _,λp M _=>by simp[Array.getElem?_replicate],⟨λ_ _ h=>h,λ_ _ h=>h⟩,λi x fl nf hi=>⟨λh=>by simp[Array.getElem?_replicate]at h,λ_ hob=>?_,λ_ h=>by simp[Array.getElem?_replicate]at h⟩⟩;have h1:=hd2 _ ((Qg7 hi).2 hob);cases h:look base.hp x.d with|none=>rfl|some ob=>rw[Qcb h]at h1;cases h1
 intro O Y hs hall ⟨j,hj,hmu,hsub,hadd⟩;have hjt:j=(Xo its).length:=by
  rcases DX j (Xo its).length with h|h
  ·obtain⟨p,M,hp,hpj⟩:=Qke (its:=its) h;have:=(hmu p M hp).1 (hall p (by have:=(QX.1 hp).1;omega));omega
  omega
 subst hjt;rw[Hm]at hsub;refine k Y hsub λi x fl nf hi=>?_;have:=(hadd i x fl nf hi).1 (hall i (by have:=(QX.1 hi).1;omega));rwa[Hm]at this
end
inductive MD where
 |s
 |st (r:List V) (rs:List (List V))
 |app (rs:List (List V)) (m:Nat)
 |any (M:Yt)
 |cm (en:Ent) (M N:List (Nat×Nat)) (dead:List Nat) (ms:List Mode) (outs:List (Nat×Ob)) (r:V) (same:List Nat)
inductive Dw where
 |a (h:WE) (sv:Option (List (Option Nat)×V)) (fl:Bool) (nf:Bool:=f_)
 |m (md:MD)
def Qwh (P:Program)(T:EJ)(f:Operand->O_ V)(hp:Nat->O_ Ob)(c:Call):Ent->O_ (Nat×L_ V×Prop)
 |.fn=>match c.callee with
  |.value (.func g)=>bif XK T.en g then match evs f c.args.toList with|some vs=>X (g,vs,True)|none=>n_
   else n_
  |_=>n_
 |.clo=>match c.callee with
  |.value x=>match f x with
   |some (.clo (.func g) fs h)=>bif XK T.en g then match evs f c.args.toList with|some vs=>X (g,fs++(vs++h),True)|none=>n_
    else n_
   |_=>n_
  |_=>n_
 |.me g=>match c.callee with
  |.invoke x name=>match f x with
   |some (.ifc t u)=>bif XK T.en g then match evs f c.args.toList with|some vs=>X (g,u::vs,(AG P t name=X (g,t_)/\QlT P t=t_)\/(AG P t name=X (g,f_)/\Qcc P t=t_))|none=>n_
    else n_
   |_=>n_
  |_=>n_
 |.mv g e=>match c.callee with
  |.invoke x name=>match f x with
   |some (.ifc t (.loc b 0 off))=>match hp b with
    |some (.var h)=>match h[off]? with
     |some r=>bif XK T.en g then match evs f c.args.toList with|some vs=>X (g,r::vs,AG P t name=X (g,f_)/\Qec P t e=t_/\Ux P e=X f_)|none=>n_
      else n_
     |none=>n_
    |_=>n_
   |_=>n_
  |_=>n_
def QtU {P:Program}{C:Xs}{T:EJ}{f:Operand->O_ V}{hp:Nat->O_ Ob}{o:Oper}{c:Call}{en:Ent}{g:Nat}{vs:L_ V}{ψ:Prop}{Y:St}(ok:DI P T)(ho:o.op=.call c)(e:Qwh P T f hp c en=X (g,vs,ψ))(hφ:ψ)
  (h1:∀x u,f x=X u->Y.opd x=X u) (h2:∀b u,hp b=X u->look Y.hp b=X u):Jo P C o Y g vs:=by
 obtain⟨ce,ags,ts⟩:=c;unfold Qwh at e;split at e
 ·split at e
  ·rename_i f' h;dsimp only at h;subst h;replace e:=XV e;obtain⟨O,e⟩:=e;split at e
   ·rename_i vs' hv;cases e;exact Jo.fn ho (ok.en O) (Ua h1 hv)
   cases e
  cases e
 ·split at e
  ·rename_i x h;dsimp only at h;subst h;split at e
   ·rename_i f' fs cs hx;replace e:=XV e;obtain⟨O,e⟩:=e;split at e
    ·rename_i vs' hv;cases e;exact Jo.clo ho (h1 _ _ hx) (ok.en O) (Ua h1 hv)
    cases e
   cases e
  cases e
 ·split at e
  ·rename_i x name h;dsimp only at h;subst h;split at e
   ·rename_i t u hx;replace e:=XV e;obtain⟨O,e⟩:=e;split at e
    ·rename_i vs' hv;cases e;exact Jo.meth (r:=u) ho (h1 _ _ hx) hφ (ok.en O) (Ua h1 hv)
    cases e
   cases e
  cases e
 split at e
 ·rename_i x name h;dsimp only at h;subst h;split at e
  ·rename_i t b off hx;split at e
   ·rename_i cs hb;split at e
    ·rename_i r hr0;replace e:=XV e;obtain⟨O,e⟩:=e;split at e
     ·rename_i vs' hv;cases e;exact Jo.methV ho (h1 _ _ hx) hφ.1 hφ.2.1 hφ.2.2 (h2 _ _ hb) hr0 (ok.en O) (Ua h1 hv)
     cases e
    cases e
   cases e
  cases e
 cases e
def Qqs {bk:Nat->O_ Nat}{hp hp':Nat->O_ Ob}(h:∀b u,hp b=X u->hp' b=X u):∀{M:L_ (Nat×Nat)} {l:H_},CS bk hp M=X l->CS bk hp' M=X l:=by
 intro M
 induction M with
 |nil=>intro l e;exact e|cons p M ih=>
  obtain⟨d,s⟩:=p;intro l e;rw[CS]at e ⊢;split at e
  ·rename_i ob hob;split at e
   ·rename_i ob' O;split at e
    ·rename_i l' hl;simp only[h _ _ hob,O,ih hl];exact e
    cases e
   cases e
  cases e
def Qni {Y:St}{M N:L_ (Nat×Nat)}{dead:L_ Nat}{outs:H_}(h:DA ⟨[],N.map λp=>(p.1,Ob.itr0)⟩ M N dead outs=t_):DA Y M N dead outs=t_:=by
 simp only[DA,QL,XM]at h ⊢;obtain⟨⟨h1,h2⟩,O⟩:=h;refine⟨⟨h1,h2⟩,λp hp=>⟨⟨?_,(O p hp).1.2⟩,(O p hp).2⟩⟩;have hn:∀{l:L_ (Nat×Nat)},p∈l->(look (l.map λp=>(p.1,Ob.itr0)) p.1).isNone=f_:=by
  intro l hp
  induction l with
  |nil=>cases hp
  |cons q l ih=>
   show(look ((q.1,Ob.itr0)::l.map λp=>(p.1,Ob.itr0)) p.1).isNone=f_;by_cases e:q.1=p.1
   ·rw[e,QB];rfl
   rw[Qz _ _ e];refine ih ?_;rcases Yw.1 hp with h|h
   ·exact absurd (congrArg Prod.fst h).symm e
   exact h
 have h4:=(O p hp).1.1;rw[hn hp,Bool.or_false]at h4;rw[h4];rfl
def QbE {Y:St}(dead:L_ Nat):∀(l:H_),(Y.killL dead).sets l=Y.after dead l:=by
 intro l
 induction l with|nil=>rfl|cons p l h=>rw[St.sets,h];rfl
def QtV (hp:Nat->O_ Ob)(h:H_):L_ Nat->Prop
 |[]=>True|b::r=>hp b=look h b/\QtV hp h r
def QuR {hp:Nat->O_ Ob}{O:H_}:∀{l:L_ Nat},QtV hp O l->∀b,XK l b=t_->hp b=look O b:=by
 intro l
 induction l with
 |nil=>intro _ b h;cases h
 |cons a l ih=>
  intro h b hb;rw[XK]at hb;cases e:Nat.beq a b with|true=>rw[<-Yr e];exact h.1|false=>rw[e]at hb;exact ih h.2 b (by simpa using hb)
def Qs3 {O:L_ Nat}:∀{l:H_} {b:Nat},look (l.filter λp=>!(XK O p.1)) b=if XK O b=t_ then n_ else look l b:=by
 intro l
 induction l with
 |nil=>intro b;simp[look]|cons p l ih=>
  intro b;rw[Bz];by_cases e:p.1=b
  ·subst e;cases h:XK O p.1 with
   |true=>
    simp only[DT,Bool.false_eq_true,if_false];rw[ih,h];simp
   |false=>
    simp only[Qbw,if_true,Bool.false_eq_true,if_false];obtain⟨k,v⟩:=p;rw[QB,QB]
  cases h:XK O p.1 with
  |true=>
   simp only[DT,Bool.false_eq_true,if_false];rw[ih,Qz (k:=p.1) p.2 l e]
  |false=>
   simp only[Qbw,if_true];rw[Qz (k:=p.1) p.2 _ e,ih,Qz (k:=p.1) p.2 l e]
def R.congrHp {C:Xs}{Y σ':St}(hf:σ'.fr=Y.fr)(O:∀o,look σ'.hp o=look Y.hp o){a:Act}{w:World}(hR:R C Y a w):R C σ' a w:=by
 obtain⟨Z,h⟩:=hR;exact⟨Z,h.os,h.tape,h.output,h.size,h.kept,h.inj,λo B hB=>by rw[O];exact h.dom o B hB,h.lt,h.new,⟨h.stay.1,λo ob B h1 h2 h3=>h.stay.2 o ob B h1 (by rw[<-O];exact h2) h3⟩,h.tmps,h.defers,λt v hv=>h.frame t v (by rw[<-hf];exact hv),λo ob hob=>h.heap o ob (by rw[<-O];exact hob)⟩
def mu1 (P:Program)(C:Xs)(T:EJ)(n:Nat)(md:MD)(o:Oper)(f:Operand->O_ V)(hp:Nat->O_ Ob):O_ (Yt×O_ Prop):=match md with
 |.cm en M N dead ms outs r h=>match o.dst with
  |some d=>match o.op with
   |.call c=>bif DA ⟨[],N.map λp=>(p.1,Ob.itr0)⟩ M N dead outs&&UZ (M.map Prod.fst)&&UZ (N.map Prod.fst)&&Nat.ble (d+1) n then match Qwh P T f hp c en with
    |some (g,vs,ψ)=>match PQ (Dl M) ms vs with
     |some us=>match CS (Dl M) hp M with
      |some hsC=>match CS (Dl N) (look outs) N with
       |some O=>match trV (Dl N) r with
        |some r'=>match h with
         |[]=>X (⟨dead,O,X (d,r')⟩,X (ψ/\QQ P g us hsC (Gives r outs)))|_=>match dead with|[]=>X (⟨[],O.filter (λp=>!(XK h p.1)),X (d,r')⟩,X ((ψ/\QQ P g us hsC (Gives r outs))/\QtV hp O h))|_=>n_
        |none=>n_
       |none=>n_
      |none=>n_
     |none=>n_
    |none=>n_
    else n_
   |_=>n_
  |none=>n_
 |.any M=>X (M,X (∀Y:St,(∀x u,f x=X u->Y.opd x=X u)->(∀b u,hp b=X u->look Y.hp b=X u)->Stp P C o Y (M.run Y)))|.s=>match o.dst with
  |some d=>match o.op with
   |.assign x=>match f x with|some v=>bif Nat.ble (d+1) n then X (⟨[],[],X (d,v)⟩,n_)else n_|none=>n_
   |.move x=>match f x with|some v=>bif Nat.ble (d+1) n then X (⟨[],[],X (d,v)⟩,n_)else n_|none=>n_
   |_=>n_
  |none=>match o.op with
   |.store Tx x y=>match f x with
    |some (.loc b i off)=>match f y with
     |some v=>match hp b with
      |some (.var cs)=>match i with
       |0=>match look T.sz Tx with|some k=>bif v.isV&&Nat.beq v.cells.length k&&v.cells.all V.one&&Nat.ble (off+k) cs.length then X (⟨[],[(b,.var (Wb cs off v.cells))],n_⟩,n_)else n_|none=>n_
       |_=>n_
      |_=>n_
     |none=>n_
    |_=>n_
   |_=>n_
 |.st r rs'=>match o.dst with
  |some _=>n_|none=>match o.op with
   |.store Tx x y=>match f x with
    |some (.loc b i off)=>match f y with
     |some v=>match hp b with
      |some (.arr z rs)=>match look T.sz Tx with|some k=>bif v.isV&&Nat.beq v.cells.length k&&v.cells.all V.one&&v.cells.all V.dat&&Nat.ble (off+k) z then X (⟨[],[(b,.arr z rs')],n_⟩,X (rs[i]? = X r/\rs.set i (Wb r off v.cells)=rs'))else n_|none=>n_
      |_=>n_
     |none=>n_
    |_=>n_
   |_=>n_
 |.app rs' m=>match o.dst with
  |some d=>match o.op with
   |.call c=>match c.callee with
    |.builtin .append=>match c.args.toList with
     |[x,y]=>match c.argTypes.toList with
      |[Tx,Ty]=>match f x with
       |some (.own b k)=>match f y with
        |some v=>match hp b with
         |some (.arr z rs)=>match look T.es Tx with
          |some (e,z',by_)=>match look T.zv e with
           |some zs=>bif (look T.es Ty).isSome&&Nat.ble (d+1) n&&!(Nat.ble 639 b)&&Nat.beq z z'&&Nat.beq zs.length z&&!(Nat.beq z 0)&&Nat.ble by_ 32768 then match v with|.sl z'' us=>bif Nat.beq z z'' then X (⟨[b],[(b,.arr z rs')],X (d,.own b m)⟩,X (rs.length=k/\decide (k+us.length<=4294967296)=t_/\rs++us=rs'/\k+us.length=m))else n_|_=>n_
            else n_
           |none=>n_
          |none=>n_
         |_=>n_
        |none=>n_
       |_=>n_
      |_=>n_
     |_=>n_
    |_=>n_
   |_=>n_
  |none=>n_
def Zr (obj:Bool)(o:Oper)(t:Nat)(fo:Bool)(ms:L_ Yt):L_ (It×Nat)->Nat->O_ DF
 |(.add x h _,j)::r,i+1=>bif Nat.beq x.d t&&Ml o i&&(bif fo then h else bif obj then Qe1 x h (ms.drop j)else alv x h (ms.drop j))then X x else Zr obj o t fo ms r i|(.tn _,_)::r,i+1=>Zr obj o t fo ms r i|_,_=>n_
def Qcj (B:St)(fo:Bool)(ms:L_ Yt)(h:L_ (It×Nat))(i:Nat)(o:Oper):Operand->O_ V
 |.tmp t=>match look B.fr t with
  |some v=>X v|none=>match Zr f_ o t fo ms h i with|some x=>X x.v|none=>n_
 |x=>B.opd x
def Qg8 (B:St)(fo:Bool)(ms:L_ Yt)(h:L_ (It×Nat))(i:Nat)(o:Oper)(b:Nat):O_ Ob:=match look B.hp b with
 |some ob=>X ob|none=>match Zr t_ o b fo ms h i with|some x=>x.ob|none=>n_
structure Dr where
 ri:List (It×Nat)
 ms:List Yt
 B:St
 Z:Prop
def Ub (P:Program)(C:Xs)(T:EJ)(n:Nat)(ops:Array Oper)(S:St):L_ Dw->L_ Oper->Nat->L_ (It×Nat)->L_ Yt->St->Prop->O_ Dr
 |[],_,_,O,ms,B,Z=>X ⟨O,ms,B,Z⟩|.a h sv fl nf::ds,o::l,i,O,ms,B,Z=>match UA ops o (λt=>Qcj (bif fl&&!nf then S else B) (fl&&!nf) ms O i o (.tmp t))with
  |some true=>match o.dst with
   |some d=>bif Nat.ble (d+1) n then match ev1 P C T h o d (Qcj (bif fl&&!nf then S else B) (fl&&!nf) ms O i o) (Qg8 (bif fl&&!nf then S else B) (fl&&!nf) ms O i o)with
    |some ⟨v,ob,q⟩=>match sv with|none=>Ub P C T n ops S ds l (i+1) ((.add ⟨d,v,ob⟩ fl nf,ms.length)::O) ms B (Qcf Z q)|some (mm,u)=>Ub P C T n ops S ds l (i+1) ((.add ⟨d,u,ob⟩ fl nf,ms.length)::O) ms B (Qcf Z q/\v.denil mm=u)
    |none=>n_
    else n_
   |none=>n_
  |some false=>match o.dst with|some d=>bif Nat.ble (d+1) n then Ub P C T n ops S ds l (i+1) ((.add ⟨d,.lit undef,n_⟩ fl nf,ms.length)::O) ms B Z else n_|none=>n_
  |none=>n_
 |.m md::ds,o::l,i,O,ms,B,Z=>match UA ops o (λt=>Qcj B f_ ms O i o (.tmp t))with
  |some true=>match mu1 P C T n md o (Qcj B f_ ms O i o) (Qg8 B f_ ms O i o)with|some (M,q)=>Ub P C T n ops S ds l (i+1) ((.tn M,ms.length)::O) (ms++[M]) (M.run B) (Qcf Z q)|none=>n_
  |_=>n_
 |_::_,[],_,_,_,_,_=>n_
def YP (h:L_ (It×Nat)):L_ It:=(h.map Prod.fst).reverse
section
variable {P:Program}{C:Xs}{T:EJ}{Q:Exit->St->Prop}{n:Nat}{ops:Array Oper}{base S:St}{ks:L_ Fr}
def Qqt {md:MD}{o:Oper}{f:Operand->O_ V}{hp:Nat->O_ Ob}{M:Yt}{q:O_ Prop}{Y:St}(ok:DI P T)(hN:JA P C n)(e:mu1 P C T n md o f hp=X (M,q))(hq:match q with|none=>True|some p=>p)
  (h1:∀x u,f x=X u->Y.opd x=X u) (h2:∀b u,hp b=X u->look Y.hp b=X u):Stp P C o Y (M.run Y):=by
 have hn:=hN.n;have hpg:=hN.g;unfold mu1 at e;cases md with
 |any M0=>cases e;exact hq Y h1 h2
 |cm en M0 N dead ms outs r same=>
  dsimp only at e;split at e
  ·rename_i d hd;split at e
   ·rename_i c ho;replace e:=XV e;obtain⟨O,e⟩:=e;simp only[QL]at O;obtain⟨⟨⟨g1,g2⟩,g3⟩,g4⟩:=O;rw[<-hn]at g4;have g1:=Qni (Y:=Y) g1;have g2:=WD.1 g2;have g3:=WD.1 g3;have inj:Ho M0=t_/\Ho N=t_:=by
     simp only[DA,QL]at g1;exact⟨g1.1.1.1,g1.1.1.2⟩
    have mM:∀a b,Dl M0 a=X b->look M0 b=X a:=λa b h=>JX inj.1 (Bk h) g2;have mN:∀a b,Dl N a=X b->look N b=X a:=λa b h=>JX inj.2 (Bk h) g3;split at e
    ·rename_i g vs ψ hent;split at e
     ·rename_i us hus;split at e
      ·rename_i hsC hC;split at e
       ·rename_i hsN hN;split at e
        ·rename_i r' hr;have call:ψ/\QQ P g us hsC (Gives r outs)->Stp P C o Y ((Y.after dead hsN).put d r'):=λhq=>
          Stp.callM (g:=f_) (QtU (C:=C) ok ho hent hq.1 h1 h2) hd g4 hpg g1 g2 (IV mM hus) (Dj mM (Qqs h2 hC)) hq.2 (Dj mN hN) (Mn mN hr)
         split at e
         ·cases e;unfold Yt.run;dsimp only;rw[QbE];exact call hq
         split at e
         ·cases e;obtain⟨hq1,hq2⟩:=hq;intro a w hR K Q hK;refine call hq1 a w hR K Q λa' w' hR'=>hK a' w' (R.congrHp ?_ (λo=>?_) hR')
          ·unfold Yt.run;dsimp only;rw[QbE];rfl
          unfold Yt.run;dsimp only;rw[QbE];show look (_++Y.hp) o=look (_++Y.hp) o;rw[UR,UR,Qs3];by_cases hm:XK same o=t_
          ·rw[if_pos hm];have:=QuR hq2 o hm;cases hl:look hsN o with|none=>rfl|some ob=>rw[hl]at this;exact h2 o ob this
          rw[if_neg hm]
         cases e
        cases e
       cases e
      cases e
     cases e
    cases e
   cases e
  cases e
 |s=>
  dsimp only at e;split at e
  ·rename_i d hd;split at e
   ·rename_i x ho;split at e
    ·rename_i v hv;replace e:=XV e;obtain⟨O,e⟩:=e;rw[<-hn]at O;cases e;exact Stp.assign ho hd O (h1 _ _ hv)
    cases e
   ·rename_i x ho;split at e
    ·rename_i v hv;replace e:=XV e;obtain⟨O,e⟩:=e;rw[<-hn]at O;cases e;exact Stp.move ho hd O (h1 _ _ hv)
    cases e
   cases e
  rename_i hd;split at e
  ·rename_i Tx x y ho;split at e
   ·rename_i b i off hx;split at e
    ·rename_i v hv;split at e
     ·rename_i cs hb;split at e
      ·split at e
       ·rename_i k hk;replace e:=XV e;obtain⟨e2,e⟩:=e;cases e;simp only[QL]at e2;obtain⟨⟨⟨a1,a2⟩,a3⟩,a4⟩:=e2;exact Stp.storeL ho hd (h1 _ _ hx) (h2 _ _ hb) (h1 _ _ hv) (V.isV_or a1) (ok.sz hk) (Yr a2) a3 a4 rfl
       cases e
      cases e
     cases e
    cases e
   cases e
  cases e
 |st r rs'=>
  dsimp only at e;split at e
  ·cases e
  rename_i hd;split at e
  ·rename_i Tx x y ho;split at e
   ·rename_i b i off hx;split at e
    ·rename_i v hv;split at e
     ·rename_i z rs hb;split at e
      ·rename_i k hk;replace e:=XV e;obtain⟨e2,e⟩:=e;cases e;simp only[QL]at e2;obtain⟨⟨⟨⟨a1,a2⟩,a3⟩,a4⟩,a5⟩:=e2;exact Stp.storeA ho hd (h1 _ _ hx) (h2 _ _ hb) hq.1 (h1 _ _ hv) (V.isV_or a1) (ok.sz hk) (Yr a2) a3 a4 a5 hq.2
      cases e
     cases e
    cases e
   cases e
  cases e
 |app rs' m=>
  dsimp only at e;split at e
  ·rename_i d hd;split at e
   ·rename_i c ho;obtain⟨ce,ags,ts⟩:=c;split at e
    ·rename_i hce;dsimp only at hce e;subst hce;split at e
     ·rename_i x y hxy;split at e
      ·rename_i Tx Ty hT;split at e
       ·rename_i b k hx;split at e
        ·rename_i v hv;split at e
         ·rename_i z rs hb;split at e
          ·rename_i et z' by_ hes;split at e
           ·rename_i zs hz;replace e:=XV e;obtain⟨O,e⟩:=e;simp only[QL,AC]at O;obtain⟨⟨⟨⟨⟨⟨a1,a2⟩,a3⟩,a4⟩,a5⟩,a6⟩,a7⟩:=O;have a4:=Yr a4;subst a4;have a5:=Yr a5;have a6:z≠0:=λh0=>by rw[h0]at a6;cases a6
            rw[<-hn]at a2;obtain⟨⟨e2,z2,by2⟩,hU⟩:∃q,XZ P Ty=X q:=by
             cases hl:look T.es Ty with
             |none=>rw[hl]at a1;cases a1
             |some q=>exact⟨q,ok.es hl⟩
            have ea:ags=#[x,y]:=by rw[<-Qd2 (xs:=ags),hxy]
            have et:ts=#[Tx,Ty]:=by rw[<-Qd2 (xs:=ts),hT]
            subst ea;subst et;split at e
            ·rename_i z'' us;replace e:=XV e;obtain⟨e3,e⟩:=e;have:=Yr e3;subst this;cases e;obtain⟨h4,h5,h6,h7⟩:=hq;exact Stp.appS ho hd a2 (h1 _ _ hx) (h2 _ _ hb) a3 h4 (ok.es hes) hU (ok.zv hz) a5 a6 a7 h5 (h1 _ _ hv) h6 h7
            cases e
           cases e
          cases e
         cases e
        cases e
       cases e
      cases e
     cases e
    cases e
   cases e
  cases e
def QiM {obj:Bool}{o:Oper}{t:Nat}{fo:Bool}{ms:L_ Yt}:∀{ri:L_ (It×Nat)} {i:Nat} {x:DF},i=ri.length->Zr obj o t fo ms ri i=X x->
  ∃k O nf j,ri.reverse[k]? = X (.add x O nf,j)/\Ml o k=t_/\x.d=t/\(bif fo then O else bif obj then Qe1 x O (ms.drop j)else alv x O (ms.drop j))=t_:=by
 intro ri
 induction ri with
 |nil=>intro i x hi h;subst hi;cases h
 |cons y ri ih=>
  intro i x hi h;subst hi;have up:∀{x:DF},(∃k O nf j,ri.reverse[k]? = X (.add x O nf,j)/\Ml o k=t_/\x.d=t/\(bif fo then O else bif obj then Qe1 x O (ms.drop j)else alv x O (ms.drop j))=t_)->∃k O nf j,(y::ri).reverse[k]? = X (.add x O nf,j)/\Ml o k=t_/\x.d=t/\(bif fo then O else bif obj then Qe1 x O (ms.drop j)else alv x O (ms.drop j))=t_:=by
   rintro x ⟨k,O,nf,j,h1,h2⟩;refine⟨k,O,nf,j,?_,h2⟩;rw[List.reverse_cons,Yp (QX.1 h1).1];exact h1
  obtain⟨it,j⟩:=y;cases it with
  |tn M=>rw[DU,Zr]at h;exact up (ih rfl h)|add z O nf=>
   rw[DU,Zr]at h;cases hb:(Nat.beq z.d t&&Ml o ri.length&&(bif fo then O else bif obj then Qe1 z O (ms.drop j)else alv z O (ms.drop j)))with
   |true=>
    rw[hb]at h;cases h;simp only[QL]at hb;exact⟨ri.length,O,nf,j,by simp,hb.1.2,Yr hb.1.1,hb.2⟩
   |false=>rw[hb]at h;exact up (ih rfl h)
def Qg9 {o:Oper}{f:Nat->O_ V}{Y:St}{b:Bool}(h:UA ops o f=X b)(hx:∀t u,f t=X u->look Y.fr t=X u):UA ops o (look Y.fr)=X b:=by
 unfold UA at h ⊢;cases hg:o.guard with
 |none=>simp only[hg]at h ⊢;exact h|some p=>
  obtain⟨j,t⟩:=p;simp only[hg]at h ⊢;cases hj:ops[j]? with
  |none=>simp only[hj]at h;cases h
  |some oj=>
   simp only[hj]at h ⊢;cases hd:oj.dst with
   |none=>simp only[hd]at h;cases h
   |some d=>
    simp only[hd]at h ⊢;cases O:f d with
    |none=>simp only[O]at h;cases h
    |some v=>
     have:=hx d v O;simp only[O]at h;simp only[this];exact h
def JL.want {o:Oper}{Y σ':St}(h:UA ops o (look Y.fr)=X t_)(hs:Stp P C o Y σ'):JL P C ops o Y σ':=by
 rcases ZI h with⟨hg,_⟩|⟨j,t,d',hg,hj,⟨u,hu,O⟩|⟨_,O⟩⟩
 ·exact JL.run hg hs
 ·exact JL.runG hg hj hu (by simpa using O.symm) hs
 cases O
def JL.unwant {o:Oper}{Y:St}{d:Nat}(h:UA ops o (look Y.fr)=X f_)(hd:o.dst=X d)(hn:B_ d C):JL P C ops o Y (Y.put d (.lit undef)):=by
 rcases ZI h with⟨_,O⟩|⟨j,t,d',hg,hj,⟨u,hu,O⟩|⟨hu,_⟩⟩
 ·cases O
 ·have:u=!t:=by cases u<;>cases t<;>first|rfl|cases O
  exact JL.pass hg hj hu this hd hn
 exact JL.passU hg hj hu hd hn
def Qpc (ok:DI P T)(hN:JA P C n){D:Dr}:∀(ds:L_ Dw) {l:L_ Oper} {i:Nat} {ri:L_ (It×Nat)} {ms:L_ Yt} {B:St} {Z:Prop},Ub P C T n ops S ds l i ri ms B Z=X D->i=ri.length->l=ops.toList.drop i->ms=Xo (YP ri)->B=RX base ms->
  (∀k it j,ri.reverse[k]? = X (it,j)->j=j0 (YP ri) k)->D.Z->
  Z/\D.ri.length=i+ds.length/\(∃r,YP D.ri=YP ri++r)/\D.ms=Xo (YP D.ri)/\D.B=RX base D.ms/\(∀k it j,D.ri.reverse[k]? = X (it,j)->j=j0 (YP D.ri) k)/\
   ∀k o it,i<=k->ops[k]? = X o->(YP D.ri)[k]? = X it->QfH P C ops base S (YP D.ri) k o it:=by
 have hn:=hN.n;intro ds
 induction ds with
 |nil=>
  intro l i ri ms B Z h hi hl hms hB hj hφ;cases h;refine⟨hφ,by simp[hi],⟨[],by simp⟩,hms,hB,hj,λk o it hk ho hit=>?_⟩;have:=(QX.1 hit).1;simp[YP]at this;omega
 |cons d ds ih=>
  intro l i ri ms B Z h hi hl hms hB hj hφ;cases l with
  |nil=>cases d<;>cases h
  |cons o l=>
   have ho:ops[i]? = X o:=by
    have:=congrArg (λx=>x[0]?) hl;simpa using this.symm
   have hl':l=ops.toList.drop (i+1):=by
    have:=congrArg List.tail hl;simpa using this
   have hlen:(YP ri).length=i:=by simp[YP,hi]
   have grow:∀(it:It) (φ0:Prop) (ms':L_ Yt) (B':St),ms'=Xo (YP ri++[it])->B'=RX base ms'->Ub P C T n ops S ds l (i+1) ((it,ms.length)::ri) ms' B' φ0=X D->
     (φ0->Z/\∀its:L_ It,(∃r,its=YP ri++(it::r))->QfH P C ops base S its i o it)->
     Z/\D.ri.length=i+(ds.length+1)/\(∃r,YP D.ri=YP ri++r)/\D.ms=Xo (YP D.ri)/\D.B=RX base D.ms/\(∀k it j,D.ri.reverse[k]? = X (it,j)->j=j0 (YP D.ri) k)/\
      ∀k o it,i<=k->ops[k]? = X o->(YP D.ri)[k]? = X it->QfH P C ops base S (YP D.ri) k o it:=by
    intro it φ0 ms' B' hms' hB' h hstep;have hio:YP ((it,ms.length)::ri)=YP ri++[it]:=by simp[YP]
    obtain⟨h1,h2,⟨r,h3⟩,h4,h5,h6,h7⟩:=ih h (by simp[hi]) hl' (by rw[hio];exact hms') hB' (λk it' j hk=>by
     rw[hio];rw[List.reverse_cons]at hk;by_cases hlt:k<ri.length
     ·rw[Yp (by simpa using hlt)]at hk;rw[hj k it' j hk];unfold j0;rw[Qj7 (by omega)]
     rw[YJ (by simp;omega)]at hk;have:k-ri.reverse.length=0:=by
      have:=(QX.1 hk).1;simpa using this
     rw[this]at hk;simp at hk;obtain⟨rfl,rfl⟩:=hk;have hk2:k=ri.length:=by simp at this;omega
     unfold j0;rw[Qj7 (by omega),hms,DW (by omega)]) hφ
    obtain⟨h8,h9⟩:=hstep h1;rw[hio,WC]at h3;refine⟨h8,by omega,⟨_,h3⟩,h4,h5,h6,λk o' it' hk ho' hit=>?_⟩;rcases DX i k with hlt|hge
    ·exact h7 k o' it' hlt ho' hit
    have:k=i:=by omega
    subst this;rw[ho]at ho';cases ho';have:(YP D.ri)[k]? = X it:=by rw[h3,YJ (by omega),hlen];simp
    rw[this]at hit;cases hit;exact h9 _ ⟨r,h3⟩
   have place:∀{its:L_ It} {it:It} {r:L_ It},its=YP ri++(it::r)->(Xo its).take (j0 its i)=ms/\∀k it' j,ri.reverse[k]? = X (it',j)->its[k]? = X it'/\j=j0 its k:=by
    intro its it r O;have h1:its.take i=YP ri:=by rw[O,Qj7 (by omega),DW (by omega)]
    refine⟨?_,λk it' j hk=>⟨?_,?_⟩⟩
    ·unfold j0;rw[h1,O,Bl,<-hms];simp
    ·have hk2:(YP ri)[k]? = X it':=by simp only[YP,<-List.map_reverse,Ya,hk,Jh]
     rw[O,Yp (QX.1 hk2).1];exact hk2
    have hkl:=(QX.1 hk).1;rw[hj k it' j hk];unfold j0;rw[O,Qj7 (by simp at hkl;omega)]
   have envB:∀{its:L_ It} {it:It} {r:L_ It} {Y:St},its=YP ri++(it::r)->GI Y B->(∀k y fl nf,its[k]? = X (.add y fl nf)->Ml o k=t_->SG Y y fl (ms.drop (j0 its k)))->
     (∀x u,Qcj B f_ ms ri i o x=X u->Y.opd x=X u)/\∀b u,Qg8 B f_ ms ri i o b=X u->look Y.hp b=X u:=by
    intro its it r Y O hsub hdep;have dep:∀{t:Nat} {x:DF},Zr f_ o t f_ ms ri i=X x->look Y.fr x.d=X x.v/\x.d=t:=λhf=>by
     obtain⟨k,fl,nf,j,g1,g2,g3,g4⟩:=QiM hi hf;obtain⟨g5,g6⟩:=(place O).2 k _ j g1;exact⟨(hdep k _ fl nf g5 g2).1 (by rw[<-g6];exact g4),g3⟩
    have depO:∀{t:Nat} {x:DF},Zr t_ o t f_ ms ri i=X x->(∀ob,x.ob=X ob->look Y.hp x.d=X ob)/\x.d=t:=λhf=>by
     obtain⟨k,fl,nf,j,g1,g2,g3,g4⟩:=QiM hi hf;obtain⟨g5,g6⟩:=(place O).2 k _ j g1;exact⟨(hdep k _ fl nf g5 g2).2 (by rw[<-g6];exact g4),g3⟩
    refine⟨λx u hx=>?_,λb u hx=>?_⟩
    ·cases x with
     |tmp t=>
      simp only[Qcj]at hx;split at hx
      ·rename_i v hv;cases hx;exact hsub.1 _ _ hv
      split at hx
      ·rename_i y hy;cases hx;obtain⟨g1,g2⟩:=dep hy;subst g2;exact g1
      cases hx
     |const v=>exact hx|global g=>exact hx|func f=>exact hx
    simp only[Qg8]at hx;split at hx
    ·rename_i v hv;cases hx;exact hsub.2 _ _ hv
    split at hx
    ·rename_i y hy;obtain⟨g1,g2⟩:=depO hy;subst g2;exact g1 _ hx
    cases hx
   have envS:∀{its:L_ It} {it:It} {r:L_ It} {Y:St},its=YP ri++(it::r)->GI Y S->(∀k y nf,its[k]? = X (.add y t_ nf)->Ml o k=t_->QgY Y y)->
     (∀x u,Qcj S t_ ms ri i o x=X u->Y.opd x=X u)/\∀b u,Qg8 S t_ ms ri i o b=X u->look Y.hp b=X u:=by
    intro its it r Y O hsub hdep;have dep:∀{b:Bool} {t:Nat} {x:DF},Zr b o t t_ ms ri i=X x->QgY Y x/\x.d=t:=λhf=>by
     obtain⟨k,fl,nf,j,g1,g2,g3,g4⟩:=QiM hi hf;obtain⟨g5,g6⟩:=(place O).2 k _ j g1;have:fl=t_:=g4;subst this;exact⟨hdep k _ nf g5 g2,g3⟩
    refine⟨λx u hx=>?_,λb u hx=>?_⟩
    ·cases x with
     |tmp t=>
      simp only[Qcj]at hx;split at hx
      ·rename_i v hv;cases hx;exact hsub.1 _ _ hv
      split at hx
      ·rename_i y hy;cases hx;obtain⟨g1,g2⟩:=dep hy;subst g2;exact g1.1
      cases hx
     |const v=>exact hx|global g=>exact hx|func f=>exact hx
    simp only[Qg8]at hx;split at hx
    ·rename_i v hv;cases hx;exact hsub.2 _ _ hv
    split at hx
    ·rename_i y hy;obtain⟨g1,g2⟩:=dep hy;subst g2;exact g1.2 _ hx
    cases hx
   have addOK:∀{x:DF} {fl nf:Bool} {φ0:Prop},Ub P C T n ops S ds l (i+1) ((.add x fl nf,ms.length)::ri) ms B φ0=X D->
     (φ0->Z/\∀Y,(∀y u,Qcj (bif fl&&!nf then S else B) (fl&&!nf) ms ri i o y=X u->Y.opd y=X u)->(∀b u,Qg8 (bif fl&&!nf then S else B) (fl&&!nf) ms ri i o b=X u->look Y.hp b=X u)->(x.ob.isSome=t_->look Y.hp x.d=n_)->JL P C ops o Y (Y.addF x))->
     Z/\D.ri.length=i+(ds.length+1)/\(∃r,YP D.ri=YP ri++r)/\D.ms=Xo (YP D.ri)/\D.B=RX base D.ms/\(∀k it j,D.ri.reverse[k]? = X (it,j)->j=j0 (YP D.ri) k)/\
      ∀k o it,i<=k->ops[k]? = X o->(YP D.ri)[k]? = X it->QfH P C ops base S (YP D.ri) k o it:=by
    intro x fl nf φ0 h hs;refine grow (.add x fl nf) φ0 ms B (by rw[Bl];simp[Xo,hms]) hB h λh0=>?_;obtain⟨g1,g2⟩:=hs h0;refine⟨g1,λits ⟨r,O⟩=>?_⟩;dsimp only[QfH];generalize (fl&&!nf)=ff at g2 ⊢;cases ff with
    |true=>exact λY hsub hdep hf=>let ⟨a,b⟩:=envS O hsub hdep;g2 Y a b hf|false=>
     intro Y hsub hdep hf;rw[(place O).1,<-hB]at hsub;rw[(place O).1]at hdep;obtain⟨a,b⟩:=envB O hsub hdep;exact g2 Y a b hf
   cases d with
   |a h0 sv fl nf=>
    rw[Ub]at h;split at h
    ·rename_i hw;split at h
     ·rename_i dd hd;replace h:=XV h;obtain⟨e1,h⟩:=h;rw[<-hn]at e1;have stp:∀{v:V} {ob:O_ Ob} {q:O_ Prop} {Y:St},ev1 P C T h0 o dd (Qcj (bif fl&&!nf then S else B) (fl&&!nf) ms ri i o) (Qg8 (bif fl&&!nf then S else B) (fl&&!nf) ms ri i o)=X ⟨v,ob,q⟩->Rs.holds ⟨v,ob,q⟩->
        (∀x u,Qcj (bif fl&&!nf then S else B) (fl&&!nf) ms ri i o x=X u->Y.opd x=X u)->(∀b u,Qg8 (bif fl&&!nf then S else B) (fl&&!nf) ms ri i o b=X u->look Y.hp b=X u)->(ob.isSome=t_->look Y.hp dd=n_)->JL P C ops o Y (Y.addF ⟨dd,v,ob⟩):=
       λhe hq hx hh hf=>JL.want (Qg9 hw λt u ht=>hx (.tmp t) u ht) (QiJ ok hd e1 hN.g hx hh he hq hf)
      split at h
      ·rename_i v ob q he;split at h
       ·exact addOK h λh1=>let ⟨a,b⟩:=Qcg h1;⟨a,λY hx hh hf=>stp he b hx hh hf⟩
       refine addOK h λh1=>?_;obtain⟨h1,h2⟩:=h1;subst h2;obtain⟨a,b⟩:=Qcg h1;exact⟨a,λY hx hh hf=>(stp he b hx hh hf).denil⟩
      cases h
     cases h
    ·rename_i hw;split at h
     ·rename_i dd hd;replace h:=XV h;obtain⟨e1,h⟩:=h;rw[<-hn]at e1;exact addOK h λh1=>⟨h1,λY hx hh hf=>JL.unwant (Qg9 hw λt u ht=>hx (.tmp t) u ht) hd e1⟩
     cases h
    cases h
   |m md=>
    rw[Ub]at h;split at h
    ·rename_i hw;split at h
     ·rename_i M q he;refine grow (.tn M) (Qcf Z q) (ms++[M]) (M.run B) (by rw[Bl];simp[Xo,hms]) (by rw[Qng,<-hB];rfl) h λh1=>?_;obtain⟨a,b⟩:=Qcg (v:=.J) (ob:=n_) h1;refine⟨a,λits ⟨r,O⟩ Y hsub hdep=>?_⟩;rw[(place O).1,<-hB]at hsub;rw[(place O).1]at hdep;obtain⟨hx,hh⟩:=envB O hsub hdep;refine JL.want (Qg9 hw λt u ht=>hx (.tmp t) u ht) (Qqt ok hN he ?_ hx hh);cases q with|none=>trivial|some p=>exact b
     cases h
    cases h
def Mq (ms:L_ Yt):L_ (It×Nat)->S_
 |[]=>[]|(.add x h _,j)::r=>bif alv x h (ms.drop j)then(x.d,x.v)::Mq ms r else Mq ms r|(.tn _,_)::r=>Mq ms r
def Ii (ms:L_ Yt):L_ (It×Nat)->H_
 |[]=>[]|(.add x h _,j)::r=>bif Qe1 x h (ms.drop j)then(match x.ob with|some ob=>(x.d,ob)::Ii ms r|none=>Ii ms r)else Ii ms r
 |(.tn _,_)::r=>Ii ms r
def okV (n:Nat)(ops:Array Oper)(base S:St)(D:Dr):Bool:=QiF ops&&Qwc ops (YP D.ri)&&Qr9 base (YP D.ri)&&Qsa n ops base (YP D.ri) S&&QtP ops (YP D.ri)
def Rp {α:Type}{l:L_ (Nat×α)}:∀{O:L_ Nat} {r:L_ (Nat×α)},Xz l O=X r->∀p∈r,look l p.1=X p.2:=by
 intro O
 induction O with
 |nil=>intro r h p hp;cases h;cases hp
 |cons t O ih=>
  intro r h p hp;rw[Xz]at h;split at h
  ·rename_i v hv;split at h
   ·rename_i r' hr;cases h;rcases Yw.1 hp with rfl|hp
    ·exact hv
    exact ih hr p hp
   cases h
  cases h
def Qsb {fr:S_}:∀{l:S_},(∀p∈l,look fr p.1=X p.2)->Nt fr l:=by
 intro l
 induction l with|nil=>intro _;trivial|cons p l ih=>intro h;exact⟨h p Yd,ih λq O=>h q (Yq _ O)⟩
def QlX {fr:H_}:∀{l:H_},(∀p∈l,look fr p.1=X p.2)->Hn fr l:=by
 intro l
 induction l with|nil=>intro _;trivial|cons p l ih=>intro h;exact⟨h p Yd,ih λq O=>h q (Yq _ O)⟩
def AK.draw2 {id:Nat}(ok:DI P T)(hN:JA P C n)(hmix:P.follows .mixedOrders=t_)(ds:L_ Dw)(sts sos ts os:L_ Nat){sf:S_}{sh:H_}{fr:S_}{hp:H_}{O:L_ (It×Nat)}{ms:L_ Yt}{B:St}{Z:Prop}
  (hS1:Xz base.fr sts=X sf) (hS2:Xz base.hp sos=X sh)
  (e:Ub P C T n ops ⟨sf,sh⟩ ds ops.toList 0 [] [] base True=X ⟨O,ms,B,Z⟩) (hφ:Z) (hl:ds.length=ops.size) (hk:okV n ops base ⟨sf,sh⟩ ⟨O,ms,B,Z⟩=t_)
  (hf1:Xz (Mq ms O++B.fr) ts=X fr) (hf2:Xz (Ii ms O++B.hp) os=X hp) (hc:St.closed ⟨fr,hp⟩=t_) (k:AK P C Q (.x .normal) ks ⟨fr,hp⟩):AK P C Q (.c (.region id ops t_)) ks base:=by
 have hn:=hN.n;obtain⟨D,hD⟩:∃D:Dr,D=⟨O,ms,B,Z⟩:=⟨_,rfl⟩;rw[<-hD]at e hk;have hφ:D.Z:=by rw[hD];exact hφ
 have hf1:Xz (Mq D.ms D.ri++D.B.fr) ts=X fr:=by rw[hD];exact hf1
 have hf2:Xz (Ii D.ms D.ri++D.B.hp) os=X hp:=by rw[hD];exact hf2
 clear hD;simp only[okV,QL]at hk;obtain⟨⟨⟨⟨k1,k2⟩,k3⟩,k4⟩,k6⟩:=hk;obtain⟨_,h2,_,h4,h5,h6,h7⟩:=Qpc (base:=base) ok hN ds e rfl rfl rfl rfl (λk it j h=>by simp at h) hφ;have hlen:(YP D.ri).length=ops.size:=by simp[YP];omega
 have hS:GI base ⟨sf,sh⟩:=⟨λt v h=>by
  have:=Rp hS1 (t,v) (Jv h);exact this,λp ob h=>by have:=Rp hS2 (p,ob) (Jv h);exact this⟩
 refine AK.drawV hmix hlen k1 k2 k3 k6 hn k4 hS (λi o it ho hit=>h7 i o it (Nat.zero_le _) ho hit) λY hsub hadd=>?_;rw[<-h4,<-h5]at hsub;have hadd':∀x fl nf j,(It.add x fl nf,j)∈D.ri->SG Y x fl (D.ms.drop j):=by
  intro x fl nf j hm;obtain⟨i,hi⟩:=List.getElem?_of_mem (List.mem_reverse.2 hm);have hj:=h6 i _ j hi;rw[hj,h4];refine hadd i x fl nf ?_;simp only[YP,<-List.map_reverse,Ya,hi,Jh]
 have frOK:∀{O:L_ (It×Nat)},(∀q∈O,q∈D.ri)->∀{t:Nat} {v:V},look (Mq D.ms O) t=X v->look Y.fr t=X v:=by
  intro O
  induction O with
  |nil=>intro _ t v h;cases h
  |cons y O ih=>
   intro hm t v h;have hm':=λq hq=>hm q (Yq _ hq);obtain⟨it,j⟩:=y;cases it with
   |tn M=>exact ih hm' h|add x fl nf=>
    rw[Mq]at h;cases hal:alv x fl (D.ms.drop j)with
    |false=>rw[hal]at h;exact ih hm' h|true=>
     rw[hal]at h;have h:look ((x.d,x.v)::Mq D.ms O) t=X v:=h;by_cases e:x.d=t
     ·subst e;rw[QB]at h;cases h;exact(hadd' x fl nf j (hm _ Yd)).1 hal
     rw[Qz _ _ e]at h;exact ih hm' h
 have hpOK:∀{O:L_ (It×Nat)},(∀q∈O,q∈D.ri)->∀{t:Nat} {v:Ob},look (Ii D.ms O) t=X v->look Y.hp t=X v:=by
  intro O
  induction O with
  |nil=>intro _ t v h;cases h
  |cons y O ih=>
   intro hm t v h;have hm':=λq hq=>hm q (Yq _ hq);obtain⟨it,j⟩:=y;cases it with
   |tn M=>exact ih hm' h|add x fl nf=>
    rw[Ii]at h;cases hal:Qe1 x fl (D.ms.drop j)with
    |false=>rw[hal]at h;exact ih hm' h|true=>
     rw[hal]at h;cases hob:x.ob with
     |none=>rw[hob]at h;exact ih hm' h|some ob=>
      rw[hob]at h;have h:look ((x.d,ob)::Ii D.ms O) t=X v:=h;by_cases e:x.d=t
      ·subst e;rw[QB]at h;cases h;exact(hadd' x fl nf j (hm _ Yd)).2 hal _ hob
      rw[Qz _ _ e]at h;exact ih hm' h
 refine AK.weaken (λa w hR=>hR.to (Qsb λp hp'=>?_) (QlX λp hp'=>?_) hc) k
 ·have:=Rp hf1 p hp';rw[UR]at this;cases hl:look (Mq D.ms D.ri) p.1 with
  |some v=>rw[hl]at this;cases this;exact frOK (λ_ h=>h) hl
  |none=>rw[hl]at this;exact hsub.1 _ _ this
 have:=Rp hf2 p hp';rw[UR]at this;cases hl:look (Ii D.ms D.ri) p.1 with
 |some v=>rw[hl]at this;cases this;exact hpOK (λ_ h=>h) hl
 |none=>rw[hl]at this;exact hsub.2 _ _ this
end
def Stp.callSame {P:Program}{C:Xs}{T:EJ}{n:Nat}{o:Oper}{md:MD}{f:Operand->O_ V}{hp:Nat->O_ Ob}{Y:St}{d:Nat}{v:V}{q:Prop}(ok:DI P T)(hN:JA P C n)(h:∀x u,f x=X u->Y.opd x=X u)(O:∀b u,hp b=X u->look Y.hp b=X u)
  (e:mu1 P C T n md o f hp=X (⟨[],[],X (d,v)⟩,X q)) (hq:q):Stp P C o Y (Y.addF ⟨d,v,n_⟩):=Qqt (q:=X q) ok hN e hq h O
def QzE {α:Type}{f:α->L_ V}{l:L_ α}{k:Nat}:((l.map f).drop k).take (l.length-k)=(l.drop k).map f:=by
 rw[<-List.map_drop];exact DW (by simp)
def Qed {α:Type}{f:α->L_ V}{l:L_ α}{k h:Nat}:((l.map f).drop k).take (h-k)=((l.drop k).take (h-k)).map f:=by simp
def QzF {α:Type}{l:L_ α}{k:Nat}:l.length-k=(l.drop k).length:=Hh.symm
def Qqu {a b:Nat}(h:decide (a<=b)=t_):a<=b:=QZ h
section
variable {P:Program}{C:Xs}{Y:St}{o:Oper}
def Qha (P:Program)(T:TypeId)(k:IntKind):Bool:=match P.underlying T with|some (.int q)=>ikB q k|_=>f_
def Qhb {T:TypeId}{k:IntKind}(h:Qha P T k=t_):P.underlying T=X (.int k):=by
 unfold Qha at h;split at h
 ·rename_i q O;rw[O,QrR h]
 cases h
def Stp.convI {S T d:Nat}{x:Operand}{k h:IntKind}{n:Int}(ho:o.op=.convert S T x)(hd:o.dst=X d)(hn:B_ d C)(hx:Y.opd x=X (.i h n))(hs:Qha P S h=t_)(O:Qha P T k=t_):Stp P C o Y (Y.put d (.i k (k.wrap n))):=by
 refine Stp.same hd hn λZ a w hr=>⟨.int k (k.wrap n),?_,.dat (.i _ _)⟩;simp[execOp,ho,(hr.opd hx).i_inv,convert,run_underlying (Qhb hs),run_underlying (Qhb O),Conv.intToInt]
def QtW (k:IntKind)(m n:Int):Int:=k.wrap (m*2 ^ (min n.toNat k.bits))
def Yl (k:IntKind)(m n:Int):Int:=m.fdiv (2 ^ (min n.toNat k.bits))
def Stp.shl {x y:Operand}{T U d:Nat}{k k':IntKind}{m n:Int}(ho:o.op=.binOp .shl T x y U)(O:o.dst=X d)(hn:B_ d C)(hx:Y.opd x=X (.i k m))(hy:Y.opd y=X (.i k' n))(h0:0<=n):Stp P C o Y (Y.put d (.i k (QtW k m n))):=by
 refine Stp.same O hn λZ a w h=>⟨.int k _,?_,.dat (.i _ _)⟩;have:¬n<0:=by omega
 simp[execOp,ho,(h.opd hx).i_inv,(h.opd hy).i_inv,eqGuard,binOp,Op.shift,this,QtW]
def Stp.shr {x y:Operand}{T U d:Nat}{k k':IntKind}{m n:Int}(ho:o.op=.binOp .shr T x y U)(O:o.dst=X d)(hn:B_ d C)(hx:Y.opd x=X (.i k m))(hy:Y.opd y=X (.i k' n))(h0:0<=n):Stp P C o Y (Y.put d (.i k (Yl k m n))):=by
 refine Stp.same O hn λZ a w h=>⟨.int k _,?_,.dat (.i _ _)⟩;have:¬n<0:=by omega
 simp[execOp,ho,(h.opd hx).i_inv,(h.opd hy).i_inv,eqGuard,binOp,Op.shift,this,Yl]
def Dm (k:IntKind)(m n:Int):Int:=k.wrap ((BitVec.ofInt k.bits m &&& BitVec.ofInt k.bits n).toNat:Int)
def QiN (k:IntKind)(m n:Int):Int:=k.wrap ((BitVec.ofInt k.bits m ^^^ BitVec.ofInt k.bits n).toNat:Int)
def Stp.andB {x y:Operand}{T U d:Nat}{k:IntKind}{m n:Int}(ho:o.op=.binOp .and T x y U)(O:o.dst=X d)(hn:B_ d C)(hx:Y.opd x=X (.i k m))(hy:Y.opd y=X (.i k n)):Stp P C o Y (Y.put d (.i k (Dm k m n))):=
 Stp.same O hn λZ a w h=>⟨.int k _,by simp[execOp,ho,(h.opd hx).i_inv,(h.opd hy).i_inv,eqGuard,binOp,Op.intBits,Dm],.dat (.i _ _)⟩
def Stp.xorB {x y:Operand}{T U d:Nat}{k:IntKind}{m n:Int}(ho:o.op=.binOp .xor T x y U)(O:o.dst=X d)(hn:B_ d C)(hx:Y.opd x=X (.i k m))(hy:Y.opd y=X (.i k n)):Stp P C o Y (Y.put d (.i k (QiN k m n))):=
 Stp.same O hn λZ a w h=>⟨.int k _,by simp[execOp,ho,(h.opd hx).i_inv,(h.opd hy).i_inv,eqGuard,binOp,Op.intBits,QiN],.dat (.i _ _)⟩
def Mr : L_ V->O_ (L_ Value)
 |[]=>X []|.i k n::r=>(Mr r).map (.int k n::·)|.b x::r=>(Mr r).map (.bool x::·)|.s x::r=>(Mr r).map (.string x::·)|_=>n_
def QuS {Z:Nat->O_ QV}{I:Nat->Prop}{w:World}:∀{O:L_ V} {vs xs:L_ Value},Mr O=X vs->xs.length=O.length->(∀(j:Nat) x v,xs[j]? = X x->O[j]? = X v->QR Z I w x v)->xs=vs:=by
 intro O
 induction O with
 |nil=>intro vs xs h hl _;cases h;exact Qm2 hl
 |cons c O ih=>
  intro vs xs h hl hr;cases xs with
  |nil=>cases hl
  |cons x xs=>
   have h0:=hr 0 x c rfl rfl;have hi:∀{us:L_ Value},Mr O=X us->xs=us:=λe=>ih e (by simpa using hl) λj x v a b=>hr (j+1) x v a b;cases c with
   |i k n=>simp only[Mr,Yf]at h;obtain⟨us,e,rfl⟩:=h;rw[h0.i_inv,hi e]
   |b k=>simp only[Mr,Yf]at h;obtain⟨us,e,rfl⟩:=h;rw[h0.b_inv,hi e]
   |s k=>simp only[Mr,Yf]at h;obtain⟨us,e,rfl⟩:=h;rw[h0.s_inv,hi e]
   |_=>cases h
def QR.aggVals {Z:Nat->O_ QV}{I:Nat->Prop}{w:World}{x:Value}{O:L_ V}{vs:L_ Value}(h:QR Z I w x (.agg O))(hv:Mr O=X vs):x=.agg vs.toArray:=by
 obtain⟨xs,rfl,hs,hr⟩:=h.agg_inv;have:=QuS (xs:=xs.toList) hv (by simpa using hs) λj x v a b=>hr j x v (by simpa using a) b;rw[<-this]
def EqT (P:Program)(T:TypeId)(vs us:L_ Value)(r:Bool):Prop:=P.eqGuardType P.depth T=f_/\∀w,(Op.equalIn 10000 T (.agg vs.toArray) (.agg us.toArray)).run P w=.ok r w
def Stp.eqAgg {x y:Operand}{T U d:Nat}{O ds:L_ V}{vs us:L_ Value}{r:Bool}(ho:o.op=.binOp .eql T x y U)(hd:o.dst=X d)(hn:B_ d C)(hx:Y.opd x=X (.agg O))(hy:Y.opd y=X (.agg ds))(hv:Mr O=X vs)(hu:Mr ds=X us)(h:EqT P T vs us r):
  Stp P C o Y (Y.put d (.b r)):=by
 refine Stp.same hd hn λZ a w hr=>⟨.bool r,?_,.dat (.b _)⟩;have h1:=(hr.opd hx).aggVals hv;have h2:=(hr.opd hy).aggVals hu;have h3:=h.2 w;simp only[execOp,ho,h1,h2,eqGuard,Xh,run_program,Xp,h.1];simp[binOp,Op.equal,Op.maxDepth,h3,h.1]
end
section
variable {P:Program}{C:Xs}{Y:St}{Q:Exit->St->Prop}{ks:L_ Fr}{ops:Array Oper}{rest:L_ Oper}{o:Oper}
def AK.eqNil {x y:Operand}{T U d e z:Nat}{rows:L_ (L_ V)}(hg:o.guard=n_)(ho:o.op=.binOp .eql T x y U)(hd:o.dst=X d)(hn:B_ d C)(hx:Y.opd x=X (.sl z rows))(hy:Y.opd y=X (.lit (.slice n_ 0 0)))(hT:P.underlying T=X (.slice e))
  (h1:rows=[]->AK P C Q (.o ops rest) ks (Y.put d (.b t_))) (h2:AK P C Q (.o ops rest) ks (Y.put d (.b f_))):AK P C Q (.o ops (o::rest)) ks Y:=by
 intro a w hR;obtain⟨Z,hr⟩:=hR;have hyv:a.eval y=.slice n_ 0 0:=(hr.opd hy).lit_inv;have h:∀p l c,a.eval x=.slice p l c->(execOp a.eval o).run P w=.ok (.value (.bool p.isNone)) w:=λp l c e=>by
  simp[execOp,ho,e,hyv,eqGuard,binOp,run_equal_slice_nil w T _ p l c hT]
 have go:∀{v:Bool} {σ':St},(execOp a.eval o).run P w=.ok (.value (.bool v)) w->σ'=Y.put d (.b v)->AK P C Q (.o ops rest) ks σ'->wpListIn C.F 0 P ops (up C (unw P C Q ks)) (o::rest) a w:=λ{v σ'} e e2 k=>by
  have:Stp P C { o with op:=.move (.const (.bool v)) } Y (Y.put d (.b v)):=Stp.move rfl hd hn rfl;simp only[wpListIn,Region.wanted,hg,if_true];refine⟨λ_ _=>trivial,?_⟩;rw[Qiz e,Oper.uponIn_value];subst e2;refine k _ _ ⟨Z,?_⟩;rw[hd];exact hr.put (Xv hn) (.dat (.b _))
 rcases(hr.opd hx).sl_inv with⟨p,c,O,h0⟩|⟨b,off,cap,O,_⟩
 ·cases p with|none=>exact go (h n_ 0 c O) rfl (h1 h0)|some p=>exact go (h (X p) 0 c O) rfl h2
 exact go (h _ _ _ O) rfl h2
end
section
variable {P:Program}{C:Xs}{Y:St}{o:Oper}
def Stp.buildAny {T d e z by_ n:Nat}{O:Array (Nat×Operand)}{zs vs:L_ V}{qs:S_}(ho:o.op=.buildSlice T n O)(hd:o.dst=X d)(hn:B_ d C)
  (hT:XZ P T=X (e,z,by_)) (hz:Xm P e=X zs) (hzl:zs.length=z) (hz0:z≠0) (hbig:n*z<=16777216) (hq:Y.opds O.toList=X qs) (hv:qs.all (λq=>q.2.isV)=t_)
  (hf:Uy (λi=>X (i*z,z)) ((List.range (n*z)).map λk=>zs.getD (k % z) .J) qs=X vs)
  (hfr:look Y.hp d=n_):Stp P C o Y ((Y.set d (.var vs)).put d (.own d n)):=by
 refine Stp.val λZ a w hr=>?_;obtain⟨hu,i,hi,hi1,_⟩:=Jq hT;obtain⟨i',zv,hi',hz',rfl⟩:=FX hz;rw[hi]at hi';cases hi';have hzs:zv.cells.size=i.size:=by rw[hi1];simpa using hzl
 have hf0:=hf;rw[<-hi1]at hf;rw[<-QgW zv.cells n i.size hzs (by omega)]at hf;obtain⟨xs',h1,h2,h3⟩:=hr.fill hq hv hf;refine⟨.slice (X ⟨w.heap.size,0,n_⟩) n n,w.alloc (.cells xs' e),ext Z d ⟨w.heap.size,n,1,[],0⟩,?_,?_⟩
 ·have e2:(O.map λp=>(p.1,a.eval p.2)).toList=O.toList.map λp=>(p.1,a.eval p.2):=by simp
  have hb:¬(n*i.size > 2 ^ 24):=by rw[hi1];omega
  by_cases hn0:n*i.size=0
  ·have hn1:n=0:=by
    rw[hi1]at hn0;rcases Nat.mul_eq_zero.1 hn0 with h|h
    ·exact h
    exact absurd h hz0
   subst hn1;simp only[Ib]at h1;rw[Qo4,Array.map_empty]at h1;simp only[execOp,ho,Instr.buildSlice,Xh,run_underlying hu,Xp,sizeOf,typeInfo,run_program,hi,Xq,Ib,if_true,e2,Qo4,Array.map_empty];simp[h1,newRow]
  simp only[execOp,ho,Instr.buildSlice,Xh,run_underlying hu,Xp,sizeOf,typeInfo,run_program,hi,Xq,if_neg hb,if_neg hn0,zeroValue,hz',e2,h1,newRow,run_newObj];simp
 have hN:=hr.none_of_look hfr;have hnew:=hr.alloc (cap:=n) (z:=1) hfr (C.slot hn) (ob:=.var vs) (obj:=.cells xs' e)
  ⟨xs',e,heap_alloc_new w _,h2,rfl,λj x v hx hv'=>(h3 j x v hx hv').mono (hr.mono_ext _ hN) (hr.imm_alloc d n 1 _ hN)⟩
 rw[hd];refine hnew.put (Xv hn) ?_;exact .own d n ⟨w.heap.size,n,1,[],0⟩ (Xb _ _ _) (YK _)
def Stp.idxV {T d e z by_ b n m:Nat}{x y:Operand}{cs:L_ V}{k:IntKind}{j:Int}(ho:o.op=.indexAddr T x y)(hd:o.dst=X d)(hn:B_ d C)
  (hx:Y.opd x=X (.own b n)) (hy:Y.opd y=X (.i k j)) (hT:XZ P T=X (e,z,by_)) (hb:look Y.hp b=X (.var cs)) (h:(0<=j/\j<n)/\j.toNat*z=m):
  Stp P C o Y (Y.put d (.loc b 0 m)):=by
 refine Stp.same hd hn λZ a w hr=>?_;obtain⟨⟨h,h1⟩,rfl⟩:=h;rcases(hr.opd hx).own_inv with⟨_,rfl⟩|⟨B,hB,O,he⟩
 ·omega
 refine⟨.pointer (X ⟨B.b,B.off+(0*B.z+j.toNat*z),n_⟩),?_,.loc b 0 (j.toNat*z) B hB⟩;simp only[execOp,ho,he,(hr.opd hy).i_inv,Xh,Qb9 hT h h1,Xp,Xq,Addr.add_lit,Ib,DY]
end
section
variable {P:Program}{C:Xs}{Q:Exit->St->Prop}
def Rnd (P:Program)(C:Xs)(Q:Exit->St->Prop)(ks:L_ Fr)(c:Code):Nat->St->Prop
 |0,_=>False|n+1,Y=>AK P C Q (.c c) (.cut (Rnd P C Q ks c n)::ks) Y
def AK.rnd {ks:L_ Fr}{c:Code}{n:Nat}{Y:St}(h:AK P C Q (.c c) (.cut (Rnd P C Q ks c n)::ks) Y):Rnd P C Q ks c (n+1) Y:=h
def AK.loopN {ks:L_ Fr}{c:Code}(n:Nat){Y:St}(h:Rnd P C Q ks c n Y):AK P C Q (.c (.loop c)) ks Y:=by
 have key:∀(n:Nat) (Y:St) (a:Act) (w:World),Rnd P C Q ks c n Y->R C Y a w->Code.roundsIn C.F 0 P c (up C (unw P C Q ks)) n a w:=by
  intro n
  induction n with
  |zero=>intro Y a w h;exact h.elim|succ n ih=>
   intro Y a w h O;rw[roundsIn_succ];refine wpIn_mono (h a w O) ?_;rintro e a' w' ⟨σ',h1,h2⟩;cases e with|normal=>exact ih σ' a' w' h1 h2|_=>exact⟨σ',h1,h2⟩
 exact λa w O=>wpIn_loop_rounds n (key n Y a w h O)
end
def Qkg (h:L_ V):L_ Tmp->L_ V->L_ V
 |p::O,v::vs=>Qkg (h.set p v) O vs|_,_=>h
def QuT {Z:Nat->O_ QV}{I:Nat->Prop}{w:World}:∀(ps:L_ Tmp) (h:L_ Value) (vs:L_ V) (O:Array Value) (cs:L_ V),h.length=vs.length->O.size=cs.length->
  (∀(j:Nat) x v,O[j]? = X x->cs[j]? = X v->QR Z I w x v)->(∀(j:Nat) x v,h[j]? = X x->vs[j]? = X v->QR Z I w x v)->
  ((ps.zip h).foldl (λO p=>O.setIfInBounds p.1 p.2) O).size=(Qkg cs ps vs).length/\∀(j:Nat) x v,((ps.zip h).foldl (λO p=>O.setIfInBounds p.1 p.2) O)[j]? = X x->(Qkg cs ps vs)[j]? = X v->QR Z I w x v:=by
 intro ps
 induction ps with
 |nil=>intro h vs O cs _ h2 h3 _;cases vs<;>exact⟨h2,h3⟩
 |cons p ps ih=>
  intro h vs O cs h1 h2 h3 h4;cases h with
  |nil=>cases vs with|nil=>exact⟨h2,h3⟩|cons=>cases h1
  |cons y h=>cases vs with
   |nil=>cases h1
   |cons v vs=>
    refine ih h vs (O.setIfInBounds p y) (cs.set p v) (by simpa using h1) (by simpa using h2) (λj x u hx hu=>?_) λj x u hx hu=>h4 (j+1) x u hx hu;by_cases e:p=j
    ·subst e;rw[Array.getElem?_setIfInBounds_self]at hx;rw[List.getElem?_set_self']at hu;split at hx
     ·rename_i hlt;cases hx;rw[QI (by omega)]at hu;cases hu;exact h4 0 _ _ rfl rfl
     cases hx
    rw[QrI e]at hx;rw[SA e]at hu;exact h3 j x u hx hu
def CW (P:Program)(l:Nat)(K:Ec)(us:L_ V)(hs:H_)(post:V->H_->Prop):Prop:=
 ∀(S:Nat->Prop) (Z:Nat->O_ QV) (w:World) (h:Array Value),Ins S Z w h us hs->QaD P S w->
  RoundIn Fence.wide 0 P l K.fn h K.assign K.body w λe w'=>∃x v O φ',e=.returned x/\post v O/\Outs S Z w φ' w' x v O
def Qyk {C:Xs}{n:Nat}{P:Program}{l:Nat}{f:FuncId}{tmps:Array Value}{assign body:Code}{w:World}{R:Ending->World->Prop}(h:RoundIn Fence.wide 0 P l f tmps assign body w R):RoundIn C.F n P l f tmps assign body w R:=
 ⟨trivial,λc O _=>h.2 c O (room_wide _)⟩
section
variable {P:Program}{C:Xs}{Z:Nat->O_ QV}{Y:St}{a:Act}{w:World}{o:Oper}
def RR.lp (h:RR C Z Y a w){b l:Nat}{K:Ec}{O:L_ V}{q:Nat}(hb:look Y.hp b=X (.lp l K O q)):∃B,Z b=X B/\Qxl Z (Xc C Z w) w B l K O q:=by
 rcases h.heap b _ hb with h|⟨_,h⟩
 ·exact h
 exact h.elim
def RR.lpSet (h:RR C Z Y a w){b l:Nat}{K:Ec}{cs:L_ V}{q q':Nat}(hb:look Y.hp b=X (.lp l K cs q)):
  ∃r:Loop,w.heap[l]? = X (.loop r)/\r.state=lst q/\r.pending=jmp q/\RR C Z (Y.set b (.lp l K cs q')) a (w.putObj l (.loop { r with state:=lst q',pending:=jmp q' })):=by
 obtain⟨B,hB,tmps,D,rfl,h1,h2,h3,h4⟩:=h.lp hb;refine⟨_,h2,rfl,rfl,?_⟩;have hlt:=(h.lt b B B.b hB B.self).1;have hk:∀k,k≠B.b->(w.putObj B.b (.loop { state:=lst q',pending:=jmp q',fn:=K.fn,tmps,params:=K.ps,assign:=K.assign,body:=K.body,defers:=D })).heap[k]? = w.heap[k]? := λk hk=>World.putObj_heap_other hk;refine h.write hB rfl rfl rfl World.putObj_size hk ⟨tmps,D,rfl,h1,World.putObj_heap_same hlt,h3,λj x v hx hv=>?_⟩;refine(h4 j x v hx hv).mono (λ_ _ h=>h) λk O=>⟨⟨by rw[World.putObj_size];exact O.1,O.2⟩,hk k λe=>O.2.2 b B hB (.inl e)⟩
def Stp.yield {d b l:Nat}{K:Ec}{cs:L_ V}{q:Nat}{x:Operand}{O:Array Operand}{ts:Array TypeId}{M N:L_ (Nat×Nat)}{dead:L_ Nat}{hsC outs hsN:H_}{vs us:L_ V}{r r':V}(ho:o.op=.call { callee:=.value x,args:=O,argTypes:=ts })
  (hx:Y.opd x=X (.clo (.yield l) [] [])) (hlp:look Y.hp b=X (.lp l K cs q)) (hq:q=0) (ha:Y.opsV O.toList=X vs) (hps:vs.length=K.ps.size) (hd:o.dst=X d) (hn:B_ d C) (hpg:C.pg P)
  (hnm:DA Y M N dead outs=t_) (hnd:(M.map Prod.fst).Nodup)
  (hv:Vws Y.hp f_ f_ (Uz M) (λa b=>look M b=X a) (Qkg cs K.ps.toList vs) us) (hobs:OH Y.hp f_ f_ (Uz M) (λa b=>look M b=X a) Y.hp M hsC)
  (hc:CW P l K us hsC (Gives r outs)) (hback:OH [] f_ f_ [] (λc b=>look N b=X c) outs N hsN) (hr':Vw [] f_ f_ [] (λc b=>look N b=X c) r r'):
  Stp P C o Y ((Y.after dead hsN).put d r'):=by
 intro a w ⟨Z,hr⟩ next Q hnext;subst hq;have hN:=Names.of hnm hnd;refine⟨λ_ _=>trivial,?_⟩;obtain⟨h1,h2⟩:=hr.opsV _ _ ha;obtain⟨xs,ys,hev,e1,e2,_,_⟩:=(hr.opd hx).clo_inv;have e1:xs=#[]:=Array.eq_empty_of_size_eq_zero e1;have e2:ys=#[]:=Array.eq_empty_of_size_eq_zero e2;subst e1;subst e2;obtain⟨B,hB,tmps,D,e0,_,hh,hsz,hrep⟩:=hr.lp hlp;have hl1:(O.toList.map a.eval).length=vs.length:=by simpa using h1
 obtain⟨s1,s2⟩:=QuT (Z:=Z) (I:=Xc C Z w) (w:=w) K.ps.toList (O.toList.map a.eval) vs tmps cs hl1 hsz hrep (λj x v hx hv=>by
  simp only[Ya,Yf]at hx;obtain⟨y,hy,rfl⟩:=hx;exact h2 j y v hy hv)
 have hsize:(O.map a.eval).size=K.ps.size:=by rw[<-hps,<-hl1];simp
 have hfold:(K.ps.zip (O.map a.eval)).foldl (λtmps (t,a)=>tmps.setIfInBounds t a) tmps=(K.ps.toList.zip (O.toList.map a.eval)).foldl (λtm p=>tm.setIfInBounds p.1 p.2) tmps:=by
  rw[<-Array.foldl_toList];simp
 have hex:(execOp a.eval o).run P w=.ok (.round l K.fn ((K.ps.toList.zip (O.toList.map a.eval)).foldl (λtm p=>tm.setIfInBounds p.1 p.2) tmps).toList.toArray K.assign K.body) w:=by
  simp only[execOp,ho,resolve,Xh,hev,Deferred.ofValue,Xq,Xp,invoke,Array.empty_append];rw[run_yield hh hsize,hfold]
 rw[Oper.semAt_eq _ _ _ (by rw[ho];intro c hc;cases hc),hex,Oper.uponIn_round];refine⟨(λh=>by cases h),Qyk ((hc _ _ w _ (Ins.of_vals hr (by simpa using s1) (λj x v hx hv=>s2 j x v (by simpa using hx) hv) hN.injM hN.param hv hobs) ((hr.glob hpg).mono λ_ h=>.inl h)).mono ?_)⟩;rintro e w' ⟨x,v,hs',φ',rfl,⟨rfl,hso⟩,hout⟩;obtain⟨h3,h4⟩:=hr.after hN hout hso (λc s h=>by
  obtain⟨ob',e1⟩:=hobs.get.2 c s h;obtain⟨s',ob,e2,e3,_⟩:=hobs.get.1 c ob' e1;rw[h]at e2;cases e2;exact⟨ob,e3⟩) hback
 refine hnext _ _ ⟨OI Z M N dead φ',?_⟩;rw[hd];exact h3.put (Xv hn) (h4 hr')
def Qyl (b l:Nat)(K:Ec)(post:V->H_->Prop):Exit->St->Prop
 |.normal,Y=>∃h,look Y.hp b=X (.lp l K h 1)/\post (.b t_) ((b,.lp l K h 0)::Y.hp)|.ret,Y=>∃h,look Y.hp b=X (.lp l K h 1)/\post (.b f_) ((b,.lp l K h 2)::Y.hp)|.exit k,Y=>∃h,look Y.hp b=X (.lp l K h 1)/\post (.b f_) ((b,.lp l K h (k+3))::Y.hp)|_,_=>False
def CW.walk {b l:Nat}{K:Ec}{us:L_ V}{hs:H_}{post:V->H_->Prop}(n:Nat)(hn:us.length=n)(hle:Nat.ble n 639=t_)
  (h:∀C:Xs,JA P C n->AK P C (λe Y=>e=.normal/\∃cs,look Y.hp b=X (.lp l K cs 0)/\AK P C (Qyl b l K post) (.c K.body) [] (Y.set b (.lp l K cs 1))) (.c K.assign) [] ⟨OG 0 us,hs⟩):CW P l K us hs post:=by
 intro S Z w vals hi hG;let C:Xs:=⟨w,S,λk=>∃o B,Z o=X B/\B.has k,n,Z,JT hle,X l⟩;have hF:Fence.wide.inRound l=C.F:=rfl;have hI:∀k,S k->Xc C Z w k/\w.heap[k]? = w.heap[k]? := λk hk=>⟨⟨hi.lt k hk,λ_=>hk,λo B hB e=>((hi.dom o B hB).2.1 k e).2 hk⟩,rfl⟩;have hR:R C ⟨OG 0 us,hs⟩ { tmps:=vals,defers:=[] } w:=by
  refine⟨Z,rfl,rfl,rfl,YK _,λ_ _ _=>rfl,hi.inj,λo B hB=>(hi.dom o B hB).2.2,λo B k hB hk=>⟨((hi.dom o B hB).2.1 k hk).1,λ_=>⟨o,B,hB,hk⟩⟩,λo B k hB hk hlt=>absurd (hi.dom o B hB).1 (by omega),⟨λ_ _ _ h=>h,λ_ _ _ _ _ h=>h⟩,
   by show vals.size=n;rw[hi.size,hn],⟨[],rfl,List.nodup_nil,λ_ h=>by cases h⟩,λt v hv=>?_,λo ob hob=>?_⟩
  ·obtain⟨_,h2⟩:=Qqk us 0 t v hv;rw[Nat.sub_zero]at h2;have hlt:t<vals.size:=by rw[hi.size];exact(QX.1 h2).1
   exact⟨vals[t],GR hlt,(hi.args t _ v (GR hlt) h2).mono (λ_ _ h=>h) hI⟩
  rcases hi.heap o ob hob with⟨B,hB,hr⟩|hn
  ·exact .inl ⟨B,hB,hr.mono (λ_ _ h=>h) hI λ_ _=>rfl⟩
  exact .inr hn
 refine roundIn_of_wpIn trivial ?_;rw[hF];refine wpIn_mono (h C ⟨rfl,hG,λg hg ⟨o,B,hB,hb⟩=>((hi.dom o B hB).2.1 g hb).2 (hG g hg).1⟩ _ _ hR) ?_;rintro e a1 w1 ⟨σ1,⟨rfl,cs,hlp,hbody⟩,φ1,hr1⟩;obtain⟨r,g1,g2,g3,g4⟩:=hr1.lpSet (q':=1) hlp;refine⟨_,run_beginRound g1 g2,?_⟩;have hbusy:({ r with state:=LoopState.busy }:Loop)={ r with state:=lst 1,pending:=jmp 1 }:=by
  rw[show jmp 1=r.pending from g3.symm];rfl
 rw[hbusy];refine wpIn_mono (hbody _ _ ⟨φ1,g4⟩) ?_;rintro e a2 w2 ⟨σ2,hq,φ2,hr2⟩;have fin:∀(O:O_ Code) (q:Nat) (cs2:L_ V),look σ2.hp b=X (.lp l K cs2 1)->jmp q=O->(if O.isNone then LoopState.ready else LoopState.done)=lst q->post (.b O.isNone) ((b,.lp l K cs2 q)::σ2.hp)->
   ∃v w',(Instr.endRound l O).run P w2=.ok v w'/\∃x v' hs' φ',Ending.returned v=.returned x/\post v' hs'/\Outs S Z w φ' w' x v' hs':=λO q cs2 hl2 hj hst hp=>by
  obtain⟨r2,k1,_,_,k4⟩:=hr2.lpSet (q':=q) hl2;refine⟨_,_,run_endRound O k1,.bool O.isNone,.b O.isNone,_,φ2,rfl,hp,?_⟩;rw[hst,<-hj];exact⟨k4.os,k4.tape,k4.output,k4.size,λk hk hne=>k4.kept k hk (λ⟨o,B,hB,e⟩=>hne o B hB e),k4.inj,k4.dom,
   λo B k hB hk=>⟨(k4.lt o B k hB hk).1,λhlt=>(k4.lt o B k hB hk).2 hlt⟩,k4.new,k4.stay,.dat (.b _),k4.heap⟩
 cases e with
 |normal=>obtain⟨cs2,hl2,hp⟩:=hq;exact fin n_ 0 cs2 hl2 rfl rfl hp
 |ret=>obtain⟨cs2,hl2,hp⟩:=hq;exact fin (X .ret) 2 cs2 hl2 rfl rfl hp
 |exit k=>obtain⟨cs2,hl2,hp⟩:=hq;exact fin (X (.exit k)) (k+3) cs2 hl2 rfl rfl hp
 |_=>exact hq.elim
def RR.mark (h:RR C Z Y a w):RR C Z Y { a with defers:={ target:=.collected w.heap.size,args:=#[] }::a.defers } (w.alloc (.deferred (X []))):=by
 have O:=h.step (w':=w.alloc (.deferred (X []))) rfl rfl rfl (by simp) (λk hk=>Below.heap_alloc w _ k hk);refine⟨O.os,O.tape,O.output,O.size,O.kept,O.inj,O.dom,O.lt,O.new,O.stay,O.tmps,?_,O.frame,O.heap⟩;obtain⟨Ds,h1,h2,h3⟩:=O.defers;obtain⟨Ds',h1',h2',h3'⟩:=h.defers;refine⟨w.heap.size::Ds',by simp[h1'],Uv.2 ⟨λhm=>absurd (h3' _ hm).2.1.1 (by omega),h2'⟩,λD hD=>?_⟩;rcases Yw.1 hD with rfl|hD
 ·refine⟨h.size,⟨by simp,λhlt=>absurd h.size (by omega),λo B hB hh=>absurd (h.lt o B _ hB hh).1 (by omega)⟩,World.alloc_heap_new w _⟩
 obtain⟨a1,a2,a3⟩:=h3' D hD;exact⟨a1,⟨by have:=a2.1;simp;omega,a2.2⟩,(Below.heap_alloc w _ D a2.1).trans a3⟩
def RR.killTo (h:RR C Z Y a w){b:Nat}{B:QV}(O:Z b=X B){w':World}(ho:w'.os=w.os)(ht:w'.tape=w.tape)(hu:w'.output=w.output)(hs:w'.heap.size=w.heap.size)(hk:∀k,k≠B.b->w'.heap[k]? = w.heap[k]?):RR C (Ga Z b) (Y.kill b) a w':=by
 have hI:∀k,Xc C Z w k->Xc C (Ga Z b) w' k/\w'.heap[k]? = w.heap[k]? := λk hk'=>⟨⟨by rw[hs];exact hk'.1,hk'.2.1,λo B' hB'=>hk'.2.2 o B' (Kk hB').2⟩,hk k λe=>hk'.2.2 b B O (.inl e)⟩;have hφ:∀o B,o≠b->Z o=X B->Ga Z b o=X B:=λo B ho O=>by rw[Wj ho];exact O
 refine⟨ho.trans h.os,ht.trans h.tape,hu.trans h.output,by rw[hs];exact h.size,λk h1 h2=>(hk k λe=>h2 ((h.lt b B k O (.inl e)).2 h1)).trans (h.kept k h1 h2),λo o' B B' k h1 h2=>h.inj o o' B B' k (Kk h1).2 (Kk h2).2,?_,λo B k O=>by rw[hs];exact h.lt o B k (Kk O).2,λo B k O=>h.new o B k (Kk O).2,
  ⟨λo B h1 O=>h.stay.1 o B h1 (Kk O).2,λo ob B h1 ho O=>by obtain⟨hne,ob',h2,_⟩:=Ju _ _ _ ho;rw[Wj hne];exact h.stay.2 o ob' B h1 h2 O⟩,h.tmps,h.defers.mono hI,?_,?_⟩
 ·intro o B O;obtain⟨h1,h2⟩:=Kk O;obtain⟨ob,hob⟩:=h.dom o B h2;exact⟨_,Kj _ _ _ h1 hob⟩
 ·intro t v hv;obtain⟨v',hv',rfl⟩:=IU _ _ _ hv;obtain⟨x,hx,hr⟩:=h.frame t v' hv';exact⟨x,hx,hr.kill hφ hI⟩
 intro o ob hob;obtain⟨hne,ob',hob',rfl⟩:=Ju _ _ _ hob;rcases h.heap o ob' hob' with⟨B',hB',hr⟩|⟨h1,hz⟩
 ·exact .inl ⟨B',hφ o B' hne hB',hr.kill hφ hI λk hk'=>hk k λe=>hne (h.inj o b B' B k hB' O hk' (.inl e))⟩
 exact .inr ⟨by rw[Wj hne];exact h1,hz.kill⟩
def snap (h:L_ Nat)(fr:S_)(n:Nat):L_ V:=(List.range n).map λt=>bif XK h t then(match look fr t with|some v=>v|none=>.J)else .J
def RR.snap {ts:L_ Nat}(h:RR C Z Y a w):∀(j:Nat) x v,a.tmps[j]? = X x->(snap ts Y.fr C.n)[j]? = X v->QR Z (Xc C Z w) w x v:=by
 intro j x v hx O;simp only[Vm.snap,Ya,Yf]at O;obtain⟨t,ht,rfl⟩:=O;obtain⟨_,rfl⟩:=QX.1 ht;simp only[Qj6]at *;cases hm:XK ts j with
 |false=>exact .dat (.J _)|true=>
 simp only[Xi];split
 ·rename_i v O;obtain⟨y,hy,hr⟩:=h.frame _ _ O;rw[hx]at hy;cases hy;exact hr
 exact .dat (.J _)
def rgV (P:Program)(Y:St)(f:Nat)(vs:L_ V)(M N:L_ (Nat×Nat))(dead:L_ Nat)(ms:L_ Mode)(outs:H_)(r:V):O_ (St×Prop):=
 bif DA Y M N dead outs&&UZ (M.map Prod.fst)&&UZ (N.map Prod.fst)then match PQ (Dl M) ms vs with
  |some us=>match CS (Dl M) (look Y.hp) M with
   |some h=>match CS (Dl N) (look outs) N with|some O=>X (Y.after dead O,QQ P f us h (Gives r outs))|none=>n_
   |none=>n_
  |none=>n_
 else n_
def atJ (p:Prop)(f:Code->Prop):O_ Code->Prop
 |none=>p|some c=>f c
end
section
variable {P:Program}{C:Xs}{Z:Nat->O_ QV}{Y:St}{a:Act}{w:World}{o:Oper}
def ZN (P:Program)(T:TypeId)(i:Nat):O_ (Nat×Bool×Nat):=match P.underlying T with
 |some (.struct fs)=>match fs[i]? with
  |some f=>match Ux P f.type with
   |some g=>match BA P f.type with|some n=>X (f.offset,g,n)|none=>n_
   |none=>n_
  |none=>n_
 |_=>n_
def QtX {T i off n:Nat}{g:Bool}(h:ZN P T i=X (off,g,n)):∃(fs:Array Field) (f:Field),P.underlying T=X (.struct fs)/\fs[i]? = X f/\f.offset=off/\Ux P f.type=X g/\BA P f.type=X n:=by
 unfold ZN at h;split at h
 ·rename_i fs hu;split at h
  ·rename_i f O;split at h
   ·rename_i g' hg;split at h
    ·rename_i n' hn;cases h;exact⟨fs,f,hu,O,rfl,hg,hn⟩
    cases h
   cases h
  cases h
 cases h
def Stp.field {T i d off n:Nat}{g:Bool}{x:Operand}{cs:L_ V}{v:V}(ho:o.op=.field T x i)(hd:o.dst=X d)(hn:B_ d C)(hx:Y.opd x=X (.agg cs))(hT:ZN P T i=X (off,g,n))
  (h:(bif g then X (.agg ((cs.drop off).take n))else cs[off]?)=X v):Stp P C o Y (Y.put d v):=by
 refine Stp.same hd hn λZ a w hr=>?_;obtain⟨fs,f,hu,hf,rfl,hg,hsz⟩:=QtX hT;obtain⟨xs,he,hs,hc⟩:=(hr.opd hx).agg_inv;cases g with
 |true=>
  cases h;refine⟨.agg (xs.extract f.offset (f.offset+n)),?_,.agg _ _ (by simp;omega) λj x v hj h=>?_⟩
  ·simp only[execOp,ho,he,Instr.field,Xh,run_underlying hu,Xp,hf,part,asAgg,Xq,Qd9 hg,if_true,QgU hsz]
  rw[Array.getElem?_extract]at hj;split at hj
  ·rw[YQ]at h;split at h
   ·rw[WP]at h;exact hc _ x v hj h
   cases h
  cases hj
 |false=>
  simp only[Xn]at h;have O:f.offset<xs.size:=by rw[hs];exact(QX.1 h).1
  refine⟨xs[f.offset],?_,hc _ _ v (GR O) h⟩;simp[execOp,ho,he,Instr.field,Xh,run_underlying hu,hf,part,asAgg,Qd9 hg,O]
def QuU : ∀(ms:L_ (O_ Nat)) (h:L_ V),(DZ ms h).length=h.length:=by
 intro ms
 induction ms with
 |nil=>intro h;cases h<;>rfl
 |cons m ms O=>intro h;cases h with|nil=>rfl|cons c h=>simp[DZ,O]
def XJ.den1 {I:Nat->Prop}{w:World}{x:Value}{v:V}{m:O_ Nat}(h:XJ I w x v):XJ I w x (Vm.den1 m v):=by
 unfold Vm.den1;split
 ·cases h;exact .sl0 _ _ _
 exact h
def Qwi {m:O_ Nat}{v:V}(h:v.one=t_):(Vm.den1 m v).one=t_:=by
 unfold Vm.den1;split
 ·rfl
 exact h
def R.denilA {b z:Nat}{rs:L_ (L_ V)}{ms:L_ (O_ Nat)}(hb:look Y.hp b=X (.arr z rs))(h:R C Y a w):R C (Y.set b (.arr z (rs.map (DZ ms)))) a w:=by
 obtain⟨Z,O⟩:=h;have hden:∀(ms:L_ (O_ Nat)) (r:L_ V),(∀v∈r,v.one=t_)->∀v∈DZ ms r,v.one=t_:=by
  intro ms
  induction ms with
  |nil=>intro r O;cases r<;>exact O
  |cons m ms ih=>intro r O;cases r with
   |nil=>exact O|cons c r=>
    intro v hv;rcases Yw.1 hv with rfl|hv
    ·exact Qwi (O c Yd)
    exact ih r (λv hv=>O v (Yq _ hv)) v hv
 by_cases hne:rs=[]
 ·subst hne;exact⟨Z,O.sayOb (ob':=.arr z []) hb (λ_ _ h=>h) (.inl rfl)⟩
 refine⟨Z,O.sayOb hb (λB hB hrep=>?_) (.inr λe=>hne e)⟩;obtain⟨h1,h2,h3,cs,E,h4,h5,h6⟩:=hrep;refine⟨h1,by simpa using h2,λr hr'=>?_,cs,E,h4,h5,λi r hi j v hj=>?_⟩
 ·obtain⟨r0,hr0,rfl⟩:=Ye.1 hr';exact⟨by rw[QuU];exact(h3 r0 hr0).1,hden _ _ (h3 r0 hr0).2⟩
 rw[Ya]at hi;obtain⟨r0,hi0,rfl⟩:=Yf.1 hi;obtain⟨m,v',hv',rfl⟩:=Qca _ _ j v hj;obtain⟨x,hx,hD⟩:=h6 i r0 hi0 j v' hv';exact⟨x,hx,hD.den1⟩
def AK.denilA {Q:Exit->St->Prop}{pt:Pt}{ks:L_ Fr}{b z:Nat}{rs us:L_ (L_ V)}(ms:L_ (O_ Nat))(O:look Y.hp b=X (.arr z rs))(he:rs.map (DZ ms)=us)(k:AK P C Q pt ks (Y.set b (.arr z us))):AK P C Q pt ks Y:=by
 subst he;exact AK.weaken (λa w h=>R.denilA O h) k
def Qsc {α:Type}{f:α->L_ V}{n:Nat}{x:α}{r:L_ V}{ms:L_ (O_ Nat)}(h:DZ ms r=f x):(List.replicate n r).map (DZ ms)=(List.replicate n x).map f:=by simp[h]
end
def QlY {p:Prop}{f:Code->Prop}{q:Nat}(h:(q==0)=t_)(k:p):atJ p f (jmp q):=by rw[eq_of_beq h];exact k
def QAh {p:Prop}{f:Code->Prop}{q:Nat}(h:(q==2)=t_)(k:f .ret):atJ p f (jmp q):=by rw[eq_of_beq h];exact k
def rfs : Code->L_ (Array Tmp×Code×Code)
 |.seq x y=>rfs x++rfs y|.cond _ x y=>rfs x++rfs y|.block _ x=>rfs x|.loop x=>rfs x|.rangeFunc _ h a b=>[(h,a,b)]|_=>[]
def Qpd (f:Func)(k fn:Nat):Ec:=match f.body with
 |some c=>match (rfs c)[k]? with|some (h,a,b)=>⟨fn,h,a,b⟩|none=>⟨fn,#[],.skip,.skip⟩
 |none=>⟨fn,#[],.skip,.skip⟩
def yV (P:Program)(Y:St)(l d:Nat)(K:Ec)(vs:L_ V)(M N:L_ (Nat×Nat))(dead:L_ Nat)(ms:L_ Mode)(outs:H_)(r:V):O_ (St×Prop):=
 bif DA Y M N dead outs&&UZ (M.map Prod.fst)&&UZ (N.map Prod.fst)then match PQ (Dl M) ms vs with
  |some us=>match CS (Dl M) (look Y.hp) M with
   |some h=>match CS (Dl N) (look outs) N with
    |some O=>match trV (Dl N) r with|some r'=>X ((Y.after dead O).put d r',CW P l K us h (Gives r outs))|none=>n_
    |none=>n_
   |none=>n_
  |none=>n_
 else n_
section
variable {P:Program}{C:Xs}{Y σ':St}{o:Oper}
def Stp.yieldV {d b l:Nat}{K:Ec}{cs:L_ V}{q:Nat}{x:Operand}{O:Array Operand}{ts:Array TypeId}{M N:L_ (Nat×Nat)}{dead:L_ Nat}{outs:H_}{vs us:L_ V}{ms:L_ Mode}{r:V}{Z:Prop}(ho:o.op=.call { callee:=.value x,args:=O,argTypes:=ts })
  (hx:Y.opd x=X (.clo (.yield l) [] [])) (hlp:look Y.hp b=X (.lp l K cs q)) (hq:q=0) (ha:Y.opsV O.toList=X vs) (hps:vs.length=K.ps.size) (hd:o.dst=X d) (hn:B_ d C) (hpg:C.pg P)
  (hu:Qkg cs K.ps.toList vs=us) (e:yV P Y l d K us M N dead ms outs r=X (σ',Z)) (hφ:Z):Stp P C o Y σ':=by
 unfold yV at e;replace e:=XV e;obtain⟨e1,e⟩:=e;simp only[QL]at e1;obtain⟨⟨h1,h2⟩,h3⟩:=e1;have h2:=WD.1 h2;have h3:=WD.1 h3;have inj:Ho M=t_/\Ho N=t_:=by
  simp only[DA,QL]at h1;exact⟨h1.1.1.1,h1.1.1.2⟩
 have mM:∀a b,Dl M a=X b->look M b=X a:=λa b h=>JX inj.1 (Bk h) h2;have mN:∀a b,Dl N a=X b->look N b=X a:=λa b h=>JX inj.2 (Bk h) h3;split at e
 ·rename_i us hus;split at e
  ·rename_i hsC hC;split at e
   ·rename_i hsN hN;split at e
    ·rename_i r' hr;cases e;subst hu;exact Stp.yield ho hx hlp hq ha hps hd hn hpg h1 h2 (IV mM hus) (Dj mM hC) hφ (Dj mN hN) (Mn mN hr)
    cases e
   cases e
  cases e
 cases e
end
section
variable {P:Program}{C:Xs}{Z:Nat->O_ QV}{Y:St}{a:Act}{w:World}{o:Oper}
def QhM {zc:Array Value}{z m i:Nat}(O:zc.size=z)(h0:0<z)(h:i<m*z):(Builtin.zeroCells zc m).toList[i]? = zc[i % z]? := by
 have h2:i % z<zc.size:=by rw[O];exact Nat.mod_lt _ h0
 simp only[Builtin.zeroCells,O,Array.toList_map,Array.toList_range,Ya,List.getElem?_range h,Jh,Array.getElem!_eq_getD,Qb6,GR h2,GG]
def RR.clearTail {b n l z e:Nat}{rs:L_ (L_ V)}{zs:L_ V}{zv:Value}{B:QV}(hr:RR C Z Y a w)(hb:look Y.hp b=X (.arr z rs))(hrn:rs.length=n)(hB:Z b=X B)(hzs:zv.cells.toList.map Bh=zs)(hzl:zs.length=z)(h0:0<z)(hzo:zs.all V.one=t_)
  (hln:l<=n):∃w',(storeCells ⟨B.b,B.off+l*z,n_⟩ (Builtin.zeroCells zv.cells (n-l)).toList).run P w=.ok () w'/\RR C Z (Y.set b (.arr z (rs.take l++List.replicate (n-l) zs))) a w':=by
 obtain⟨hz,hrl,hok,xs,E,e1,e2,e3⟩:=hr.block hB hb;subst hz;have hcs:zv.cells.size=B.z:=by rw[<-hzl,<-hzs];simp
 rw[XM]at hzo;have O:(Builtin.zeroCells zv.cells (n-l)).toList.length=(n-l)*B.z:=by simp[Builtin.zeroCells,hcs]
 have hmul:l*B.z+(n-l)*B.z=n*B.z:=by rw[<-YS];congr 1;omega
 have hnc:n*B.z<=B.cap*B.z:=Ys _ (by omega);have hone:∀v∈(Builtin.zeroCells zv.cells (n-l)).toList,v.oneCell'=t_:=by
  intro v hv;obtain⟨i,hi⟩:=GD.1 hv;have hil:i<(n-l)*B.z:=by rw[<-O];exact(QX.1 hi).1
  rw[QhM hcs h0 hil]at hi;have hm:(Bh v)∈zs:=by rw[<-hzs];exact List.mem_map_of_mem (QlS.2 (Array.mem_of_getElem? hi))
  exact((QR.dat (Z:=Z) (I:=λ_=>True) (w:=w) (XJ.const v)).oneCell (hzo _ hm)).2
 generalize hZ:(Builtin.zeroCells zv.cells (n-l)).toList=φ at O hone;have hrun:=run_storeCells_at P B.b (B.off+l*B.z) E φ 0 xs w e1 (by rw[O];omega) hone;simp only[PO]at hrun;refine⟨_,hrun,?_⟩;have hl1:(xs.toList.take (B.off+l*B.z)++φ++xs.toList.drop (B.off+l*B.z+φ.length)).length=xs.size:=by simp[O];omega
 refine hr.write hB rfl rfl rfl (by simp) (λk hk=>setRow_other w B.b k _ hk) ⟨rfl,by simp;omega,?_,_,E,setRow_heap w B.b xs _ E _ e1,?_,?_⟩
 ·intro r' hr';rcases Jy.1 hr' with h|h
  ·exact hok r' (DV h)
  rw[QgN h];exact⟨hzl,hzo⟩
 ·simp only[Zl,hl1];exact e2
 have hI:∀k,Xc C Z w k->Xc C Z (w.setRow B.b (xs.toList.take (B.off+l*B.z)++φ++xs.toList.drop (B.off+l*B.z+φ.length)).toArray) k/\
   (w.setRow B.b (xs.toList.take (B.off+l*B.z)++φ++xs.toList.drop (B.off+l*B.z+φ.length)).toArray).heap[k]? = w.heap[k]?:=
  λk hk=>⟨⟨by simpa using hk.1,hk.2⟩,setRow_other w B.b k _ λe=>hk.2.2 b B hB (.inl e)⟩
 intro i r hi j v hj;by_cases hil:i<l
 ·rw[Yp (by simp;omega),YQ,if_pos hil]at hi;obtain⟨y,hy,hD⟩:=e3 i r hi j v hj;have hjz:j<B.z:=by rw[<-(hok r (XG hi)).1];exact(QX.1 hj).1
  have hlt:i*B.z+j<l*B.z:=by
   have:(i+1)*B.z<=l*B.z:=Ys _ hil;rw[YS]at this;omega
  refine⟨y,?_,hD.mono hI⟩;have hyl:=(Em.1 hy).1;rw[Uu,WC,Yp (by simp;omega),YQ,if_pos (by omega)];simpa using hy
 rw[YJ (by simp;omega)]at hi;simp only[Kd,hrn,HZ hln]at hi;rw[List.getElem?_replicate]at hi;split at hi
 ·rename_i hin;cases hi;have hjz:j<B.z:=by rw[<-hzl];exact(QX.1 hj).1
  rw[<-hzs,Ya]at hj;obtain⟨y,hy,rfl⟩:=Yf.1 hj;refine⟨y,?_,XJ.const y⟩;have hidx:(i-l)*B.z+j<(n-l)*B.z:=by
   have:(i-l+1)*B.z<=(n-l)*B.z:=Ys _ hin;rw[YS]at this;omega
  have hsum:i*B.z=l*B.z+(i-l)*B.z:=by rw[<-YS];congr 1;omega
  rw[Uu,WC,YJ (by simp;omega),Yp (by simp[O];omega)];have:B.off+(i*B.z+j)-(xs.toList.take (B.off+l*B.z)).length=(i-l)*B.z+j:=by simp;omega
  rw[this,<-hZ,QhM hcs h0 hidx];have hm:((i-l)*B.z+j) % B.z=j:=by rw[Nat.add_comm,Nat.add_mul_mod_self_right,Nat.mod_eq_of_lt hjz]
  rw[hm];simpa using hy
 cases hi
def AK.clearTail {Q:Exit->St->Prop}{ks:L_ Fr}{ops:Array Oper}{rest:L_ Oper}{o1 o2:Oper}{T d b n l z e by_:Nat}{x lo:Operand}{rs us:L_ (L_ V)}{zs:L_ V}(hg1:o1.guard=n_)(hg2:o2.guard=n_)
  (ho1:o1.op=.slice T x (X lo) n_ n_) (hd1:o1.dst=X d) (ho2:o2.op=.call { callee:=.builtin .clear,args:=#[.tmp d],argTypes:=#[T] }) (hd2:o2.dst=n_) (hn:B_ d C)
  (hx:Y.opd x=X (.own b n)) (hb:look Y.hp b=X (.arr z rs)) (hrn:rs.length=n) (hT:XZ P T=X (e,z,by_)) (hz:Xm P e=X zs) (hzl:zs.length=z) (h0:Nat.ble 1 z=t_) (hzo:zs.all V.one=t_) (hl:Kt Y 0 (X lo) l) (hln:l<=n)
  (hu:rs.take l++List.replicate (n-l) zs=us) (k:AK P C Q (.o ops rest) ks ((Y.set b (.arr z us)).put d .J)):AK P C Q (.o ops (o1::o2::rest)) ks Y:=by
 intro a w ⟨Z,hr⟩;subst hu;have h0:=JT h0;obtain⟨hu,i,hi',hiz,_⟩:=Jq hT;obtain⟨i',zv,hi2,hz',hzs⟩:=FX hz;have key:∃x1 w',(execOp a.eval o1).run P w=.ok (.value x1) w/\(Builtin.clear_ #[T] o2.type #[x1]).run P w=.ok (.tuple #[]) w'/\RR C Z (Y.set b (.arr z (rs.take l++List.replicate (n-l) zs))) a w':=by
  rcases(hr.opd hx).own_inv with⟨he,rfl⟩|⟨B,hB,hcap,he⟩
  ·have l0:l=0:=by omega
   subst l0;have:rs=[]:=Np.1 hrn;subst this;refine⟨.slice n_ 0 0,w,?_,?_,hr.sayOb (ob':=.arr z []) hb (λ_ _ h=>h) (.inl rfl)⟩
   ·have O:=Di (P:=P) (b:=t_) hr hl (.no (dflt:=0)) (by omega) (by omega:0<=0);simp only[Jh,CQ]at O;simp[execOp,ho1,he,Instr.sliceAt,Instr.slice,run_underlying hu,O,sizeOf,typeInfo,hi']
   simp[Builtin.clear_,run_underlying hu]
  have O:=Di (P:=P) (b:=t_) hr hl (.no (dflt:=n)) hln (by omega:n<=B.cap);simp only[Jh,CQ]at O;by_cases hcl:B.cap=l
  ·have hln2:n-l=0:=by omega
   refine⟨.slice (X ⟨B.b,B.off,n_⟩) 0 0,w,?_,?_,?_⟩
   ·simp only[execOp,ho1,he,Instr.sliceAt,Instr.slice,run_underlying hu,O,sizeOf,typeInfo,hi',Xh,Xq,run_program,Xp,Jh,CQ];simp[hcl];omega
   ·simp[Builtin.clear_,run_underlying hu]
   rw[hln2,List.replicate_zero,Zg,DW (by omega)];exact hr.sayOb hb (λ_ _ h=>h) (.inl rfl)
  obtain⟨w',hw,hr'⟩:=hr.clearTail (P:=P) (l:=l) (e:=e) hb hrn hB hzs hzl h0 hzo hln;refine⟨.slice (X ⟨B.b,B.off+l*z,n_⟩) (n-l) (B.cap-l),?_⟩;have hex:(execOp a.eval o1).run P w=.ok (.value (.slice (X ⟨B.b,B.off+l*z,n_⟩) (n-l) (B.cap-l))) w:=by
   simp only[execOp,ho1,he,Instr.sliceAt,Instr.slice,run_underlying hu,O,sizeOf,typeInfo,hi',Xh,Xq,run_program,Xp,Jh,CQ,if_neg hcl,hiz,Addr.add_lit]
  by_cases hnl:n-l=0
  ·refine⟨w,hex,?_,?_⟩
   ·rw[hnl];simp[Builtin.clear_,run_underlying hu]
   rw[hnl,List.replicate_zero,Zg,DW (by omega)];exact hr.sayOb hb (λ_ _ h=>h) (.inl rfl)
  refine⟨w',hex,?_,hr'⟩;obtain⟨m,hm⟩:∃m,n-l=m+1:=⟨n-l-1,by omega⟩;rw[hm]at hw ⊢;rw[hi2]at hi';cases hi';simp only[Builtin.clear_,Xh,run_underlying hu,Xp,Xq,zeroValue,typeInfo,run_program,hi2,hz',Uu,List.getElem?_cons_zero];simp[hw,hz']
 obtain⟨x1,w',hex,hcl,hr'⟩:=key;have hput:∀t,(a.put (X d) x1).tmps[t]? = if t=d then(if d<a.tmps.size then X x1 else n_)else a.tmps[t]? := λt=>by
  simp only[Act.put,QeW];by_cases e:d=t
  ·subst e;simp
  simp[e,Ne.symm e]
 have hev:(a.put (X d) x1).eval (.tmp d)=x1:=by
  have hlt:d<a.tmps.size:=by rw[hr.tmps];exact Xv hn
  simp[Act.eval,Act.put,Qb6,QeW,hlt]
 have hex2:(execOp (a.put (X d) x1).eval o2).run P w=.ok (.value (.tuple #[])) w':=by
  simp only[execOp,ho2,resolve,invoke,builtin,Xh,Xq,Xp,List.map_toArray,GC,List.map_nil,hev,hcl]
 show wpListIn C.F 0 P ops (up C (unw P C Q ks)) (o1::o2::rest) a w;simp only[wpListIn,Region.wanted,hg1,if_true];refine⟨λ_ _=>trivial,?_⟩;rw[Qiz hex,Oper.uponIn_value,hd1];simp only[wpListIn,Region.wanted,hg2,if_true];refine⟨λ_ _=>trivial,?_⟩;rw[Qiz hex2,Oper.uponIn_value,hd2];exact k _ _ ⟨Z,hr'.put (Xv hn) (.dat (.J x1))⟩
def Qym {α:Type}{f:α->L_ V}{e:L_ α}{l k:Nat}{zs:L_ V}{x:α}{ms:L_ (O_ Nat)}(h:∀y,DZ ms (f y)=f y)(O:DZ ms zs=f x):((e.map f).take l++List.replicate k zs).map (DZ ms)=(e.take l++List.replicate k x).map f:=by
 have h3:DZ ms∘f=f:=funext h;simp[List.map_take,O,h3]
def QuV {α:Type}{b l:Nat}{e:L_ α}{x:α}(h:l<=e.length):V.own b e.length=V.own b (e.take l++List.replicate (e.length-l) x).length:=by
 congr 1;simp;omega
end
end Go.Vm
namespace Go.Vm
open Go Go.RowKit Go.Proofs Go.Sort Go.Shelf
open Option renaming some→X,none→n_
open Bool renaming true→t_,false→f_
def Nv (l:L_ Int):L_ Int:=l.mergeSort λx y=>decide (x<=y)
def La (x:Int):L_ V:=[V.i .i64 x]
def Qqv (l:L_ Int):(Nv l).length=l.length:=List.length_mergeSort ..
def Qs4 {P:Program}{ρ:Ren}(Ly:Lays.n189 P ρ)(zs:L_ Int)(hz:zs.length<4611686018427387904):
  QQ P (ρ.f 189) [.own 639 zs.length] [(639,.arr 1 (zs.map La))] (Gives (.tup []) [(639,.arr 1 ((Nv zs).map La))]):=by
 intro S Z w vals hi _;have hs:=hi.size;obtain⟨v0,hv0⟩:∃v0,vals=#[v0]:=by
  obtain⟨l⟩:=vals
  match l,hs with|[x],_=>exact⟨x,rfl⟩
 subst hv0;have ha:=hi.args 0 v0 _ rfl rfl;rcases ha.own_inv with⟨hx,hn⟩|⟨B,hB,hn,hx⟩
 ·have h0:zs=[]:=Qm2 hn;subst h0;subst hx;refine(Any.slices_Sort_int_none Ly n_ 0 w).mono ?_;rintro e w' ⟨rfl,rfl⟩;refine⟨.tuple #[],.tup [],[(639,.arr 1 [])],Z,rfl,⟨rfl,λc ob h=>by simpa[Nv] using h⟩,rfl,rfl,rfl,YK _,λ_ _ _=>rfl,hi.inj,λo B h=>?_,λo B k h O=>?_,λo B k h O hlt=>?_,⟨λo B _ h=>h,λo ob B _ _ h=>h⟩,.dat (.tup _ _ rfl λj x v h=>by simp at h),λo ob h=>?_⟩
  ·obtain⟨_,_,ob,hob⟩:=hi.dom o B h;exact⟨ob,hob⟩
  ·obtain⟨_,h2,_⟩:=hi.dom o B h;exact⟨(h2 k O).1,λ_=>⟨o,B,h,O⟩⟩
  ·obtain⟨h1,_,_⟩:=hi.dom o B h;omega
  have hS:∀k,S k->Aft S Z w' w' k/\w'.heap[k]? = w'.heap[k]? := λk O=>⟨⟨hi.lt k O,λ_=>O,λo B h hb=>((hi.dom o B h).2.1 k hb).2 O⟩,rfl⟩;rcases hi.heap o ob h with⟨B,hB,hr⟩|hn
  ·exact .inl ⟨B,hB,hr.mono (λ_ _ h=>h) hS λ_ _=>rfl⟩
  exact .inr hn
 subst hx;have hob:Jg Z S w B (.arr 1 (zs.map La)):=by
  rcases hi.heap 639 _ (QB _ _ _)with⟨B',hB',hr⟩|⟨hn',_⟩
  ·rw[hB]at hB';cases hB';exact hr
  rw[hB]at hn';cases hn'
 obtain⟨hz1,hle,hok,cs,E,hb,hsz,hcell⟩:=hob;have hlt:B.b<w.heap.size:=((hi.dom _ _ hB).2.1 _ B.self).1;have hrow:∀(l:L_ Int) (i:Nat) (x:Int),l[i]? = X x->(l.map La)[i]? = X (La x):=λl i x h=>by rw[Ya,h];rfl
 have hc:∀(i:Nat) x,zs[i]? = X x->cs[B.off+i]? = X (.int .i64 x):=λi x h=>by
  obtain⟨y,hy,hd⟩:=hcell i _ (hrow _ i x h) 0 (.i .i64 x) rfl;rw[show i*1+0=i by omega]at hy;rw[hy];cases hd;rfl
 have hH:Holds (Value.int .i64) w B.b B.off zs.toArray:=λj hj=>by
  have hj':j<zs.length:=by simpa using hj
  have h1:=hc j zs[j] (QI hj');have h2:zs.toArray[j]! = zs[j]:=by simp[hj']
  refine⟨?_,?_⟩
  ·rw[h2];simp[World.cell?,hb,h1]
  simp[World.frozen?,hb]
 refine(Any.slices_Sort_int Ly B.b B.off B.cap zs w hH hlt hz).mono ?_;rintro e w' ⟨rfl,n,os,rfl⟩;have hh:∀k,k<w.heap.size->(grow (putRow (Value.int .i64) (Sort.ahead w n) B.b B.off (Nv zs).toArray) os).heap[k]? = (w.heap.modify B.b (onCells (putCells (Value.int .i64) B.off (Nv zs).toArray)))[k]? := λk O=>by
  rw[heap_grow_old _ _ (by rw[size_putRow];exact O)];rfl
 have ho:∀k,k<w.heap.size->k≠B.b->(grow (putRow (Value.int .i64) (Sort.ahead w n) B.b B.off (Nv zs).toArray) os).heap[k]? = w.heap[k]? := λk O hne=>by
  rw[hh k O,Qo3,if_neg (Ne.symm hne)]
 have hsize:w.heap.size<=(grow (putRow (Value.int .i64) (Sort.ahead w n) B.b B.off (Nv zs).toArray) os).heap.size:=by
  rw[size_grow,size_putRow];exact Nat.le_add_right _ _
 have hme:(grow (putRow (Value.int .i64) (Sort.ahead w n) B.b B.off (Nv zs).toArray) os).heap[B.b]? = X (.cells (putCells (Value.int .i64) B.off (Nv zs).toArray cs) E (0,0)):=by
  rw[hh _ hlt,Qo3,if_pos rfl,hb];rfl
 have hall:∀o' B',Z o'=X B'->o'=639:=λo' B' h'=>by
  obtain⟨_,_,ob,hob⟩:=hi.dom o' B' h';by_cases e:639=o'
  ·exact e.symm
  rw[Qz _ _ e]at hob;cases hob
 refine⟨.tuple #[],.tup [],[(639,.arr 1 ((Nv zs).map La))],Z,rfl,⟨rfl,λc ob h=>h⟩,rfl,rfl,rfl,hsize,λk O hno=>?_,hi.inj,λo B h=>?_,λo B k h O=>?_,λo B k h O hl=>?_,⟨λo B _ h=>h,λo ob B _ _ h=>h⟩,.dat (.tup _ _ rfl λj x v h=>by simp at h),λo ob h=>?_⟩
 ·exact ho k O λe=>hno 639 B hB (e▸B.self)
 ·rw[hall o B h];exact⟨_,QB _ _ _⟩
 ·obtain⟨_,h2,_⟩:=hi.dom o B h;exact⟨AE (h2 k O).1 hsize,λ_=>⟨o,B,h,O⟩⟩
 ·obtain⟨h1,_,_⟩:=hi.dom o B h;omega
 by_cases e:639=o
 ·subst e;rw[QB]at h;cases h;refine .inl ⟨B,hB,hz1,?_,?_,_,E,hme,?_,?_⟩
  ·rw[KO,Qqv];rw[KO]at hle;exact hle
  ·intro r hr;obtain⟨x,_,rfl⟩:=Ye.1 hr;exact⟨rfl,λv hv=>by simp[La]at hv;subst hv;rfl⟩
  ·simpa[putCells] using hsz
  intro i r hi' j v hj;rw[Ya]at hi';obtain⟨x,hx,rfl⟩:=Yf.1 hi';have hil:i<(Nv zs).length:=(QX.1 hx).1;have hil':i<zs.length:=by rw[Qqv]at hil;exact hil
  match j,hj with
  |0,hj=>
   cases hj;refine⟨.int .i64 x,?_,.i _ _⟩;rw[show i*1+0=i by omega];have h1:=hc i zs[i] (QI hil');have h2:(Nv zs).toArray[i]! = x:=by
    have:=QX.1 hx;obtain⟨h3,h4⟩:=this;simp[h3,h4]
   simp only[putCells,Array.getElem?_mapIdx,h1,Jh];rw[if_pos ⟨by omega,by simp;omega⟩,show B.off+i-B.off=i by omega,h2]
  |j+1,hj=>simp[La]at hj
 rw[Qz _ _ e]at h;cases h
def Qpe (x:Int):L_ Int->L_ Int
 |[]=>[x]|y::l=>bif decide (x<=y)then x::y::l else y::Qpe x l
def Jr : L_ Int->L_ Int
 |[]=>[]|x::l=>Qpe x (Jr l)
def Qqw (x:Int)(l:L_ Int):(Qpe x l).Perm (x::l):=by
 induction l with
 |nil=>exact .refl _|cons y l h=>
  rw[Qpe];cases decide (x<=y)with|true=>exact .refl _|false=>exact(h.cons y).trans (.swap x y l)
def QxD {x:Int}{l:L_ Int}(h:l.Pairwise (·<=·)):(Qpe x l).Pairwise (·<=·):=by
 induction l with
 |nil=>exact QgR _ _|cons y l ih=>
  obtain⟨h1,h2⟩:=QgQ.1 h;rw[Qpe];cases c:decide (x<=y)with
  |true=>
   have c:=QZ c;refine QgQ.2 ⟨λz O=>?_,h⟩;rcases Yw.1 O with rfl|O
   ·exact c
   have:=h1 z O;omega
  |false=>
   have c:=of_decide_eq_false c;refine QgQ.2 ⟨λz O=>?_,ih h2⟩;rcases Yw.1 ((Qqw x l).mem_iff.1 O)with rfl|O
   ·omega
   exact h1 z O
def QbF (l:L_ Int):(Jr l).Perm l:=by
 induction l with|nil=>exact .refl _|cons x l h=>exact(Qqw x _).trans (h.cons x)
def QlA (l:L_ Int):(Jr l).Pairwise (·<=·):=by
 induction l with|nil=>exact List.Pairwise.nil|cons x l h=>exact QxD h
def Qhc (l:L_ Int):Jr l=l.mergeSort λx y=>decide (x<=y):=by
 refine List.Perm.eq_of_pairwise (le:=λx y:Int=>x<=y) (λa b _ _ O h2=>by omega) (QlA l) ?_ ((QbF l).trans (List.mergeSort_perm l _).symm);exact(List.pairwise_mergeSort (le:=λx y:Int=>decide (x<=y)) (λa b c O h2=>by simp at *;omega) (λa b=>by simp;omega) l).imp λh=>by simpa using h
def Ms (l:L_ Int):(Jr l).length=l.length:=(QbF l).length_eq
def Qs5 {P:Program}{ρ:Ren}(O:Lays.n189 P ρ)(zs:L_ Int)(hz:zs.length<4611686018427387904):
  QQ P (ρ.f 189) [.own 639 zs.length] [(639,.arr 1 (zs.map La))] (Gives (.tup []) [(639,.arr 1 ((Jr zs).map La))]):=by
 have h:=Qs4 O zs hz;rw[show Nv zs=Jr zs from(Qhc zs).symm]at h;exact h
def KQ (l:L_ Int):L_ Int:=Lib.compact l
def Qs6 {P:Program}{ρ:Ren}(Ly:Lays2.n20 P ρ)(zs:L_ Int)(hz:zs.length<4611686018427387904):
  QQ P (ρ.f 20) [.own 639 zs.length] [(639,.arr 1 (zs.map La))] (Gives (.own 639 (KQ zs).length) [(639,.arr 1 ((KQ zs).map La))]):=by
 intro S Z w vals hi _;have hs:=hi.size;obtain⟨v0,hv0⟩:∃v0,vals=#[v0]:=by
  obtain⟨l⟩:=vals
  match l,hs with|[x],_=>exact⟨x,rfl⟩
 subst hv0;have ha:=hi.args 0 v0 _ rfl rfl;have hall:∀o' B',Z o'=X B'->o'=639:=λo' B' h'=>by
  obtain⟨_,_,ob,O⟩:=hi.dom o' B' h';by_cases e:639=o'
  ·exact e.symm
  rw[Qz _ _ e]at O;cases O
 rcases ha.own_inv with⟨hx,hn⟩|⟨B,hB,hn,hx⟩
 ·have h0:zs=[]:=Qm2 hn;subst h0;subst hx;have hc0:KQ []=[]:=by simp[KQ,Lib.compact,Lib.compactUpTo]
  rw[hc0];refine(Any.slices_Compact_int_empty Ly n_ 0 w).mono ?_;rintro e w' ⟨rfl,rfl⟩;refine⟨.slice n_ 0 0,.own 639 0,[(639,.arr 1 [])],Z,rfl,⟨rfl,λc ob h=>h⟩,rfl,rfl,rfl,YK _,λ_ _ _=>rfl,hi.inj,λo B h=>?_,λo B k h hk=>?_,λo B k h hk hlt=>?_,⟨λo B _ h=>h,λo ob B _ _ h=>h⟩,.own0 _,λo ob h=>?_⟩
  ·obtain⟨_,_,ob,O⟩:=hi.dom o B h;exact⟨ob,O⟩
  ·obtain⟨_,h2,_⟩:=hi.dom o B h;exact⟨(h2 k hk).1,λ_=>⟨o,B,h,hk⟩⟩
  ·obtain⟨h1,_,_⟩:=hi.dom o B h;omega
  have hS:∀k,S k->Aft S Z w' w' k/\w'.heap[k]? = w'.heap[k]? := λk hk=>⟨⟨hi.lt k hk,λ_=>hk,λo B h hb=>((hi.dom o B h).2.1 k hb).2 hk⟩,rfl⟩;rcases hi.heap o ob h with⟨B,hB,hr⟩|hn
  ·exact .inl ⟨B,hB,hr.mono (λ_ _ h=>h) hS λ_ _=>rfl⟩
  exact .inr hn
 subst hx;have O:Jg Z S w B (.arr 1 (zs.map La)):=by
  rcases hi.heap 639 _ (QB _ _ _)with⟨B',hB',hr⟩|⟨hn',_⟩
  ·rw[hB]at hB';cases hB';exact hr
  rw[hB]at hn';cases hn'
 obtain⟨hz1,hle,hok,cs,E,hb,hsz,hcell⟩:=O;have hlt:B.b<w.heap.size:=((hi.dom _ _ hB).2.1 _ B.self).1;have hrow:∀(l:L_ Int) (i:Nat) (x:Int),l[i]? = X x->(l.map La)[i]? = X (La x):=λl i x h=>by rw[Ya,h];rfl
 have hc:∀(i:Nat) x,zs[i]? = X x->cs[B.off+i]? = X (.int .i64 x):=λi x h=>by
  obtain⟨y,hy,hd⟩:=hcell i _ (hrow _ i x h) 0 (.i .i64 x) rfl;rw[show i*1+0=i by omega]at hy;rw[hy];cases hd;rfl
 have hH:Holds (Value.int .i64) w B.b B.off zs.toArray:=λj hj=>by
  have hj':j<zs.length:=by simpa using hj
  have h1:=hc j zs[j] (QI hj');have h2:zs.toArray[j]! = zs[j]:=by simp[hj']
  refine⟨?_,?_⟩
  ·rw[h2];simp[World.cell?,hb,h1]
  simp[World.frozen?,hb]
 have hcl:(KQ zs).length<=zs.length:=by
  unfold KQ Lib.compact Lib.compactUpTo;rw[KO];exact Yx (Nq _ _) (by simp)
 refine(Any.slices_Compact_int Ly B.b B.off B.cap zs w hH (by omega) hn).mono ?_;rintro e w' ⟨rfl,n,rfl⟩;change ∃x v hs' φ',Ending.returned (.slice (X ⟨B.b,B.off,n_⟩) (KQ zs).length B.cap)=.returned x/\_/\Outs S Z w φ' (putRow (Value.int .i64) (Sort.ahead w n) B.b B.off (KQ zs++List.replicate (zs.length-(KQ zs).length) 0).toArray) x v hs';generalize hD:(KQ zs++List.replicate (zs.length-(KQ zs).length) 0).toArray=D;have hDs:D.size=zs.length:=by subst hD;simp;omega
 have hh:∀k:Nat,(putRow (Value.int .i64) (Sort.ahead w n) B.b B.off D).heap[k]? = (w.heap.modify B.b (onCells (putCells (Value.int .i64) B.off D)))[k]? := λk=>rfl;have ho:∀k:Nat,k≠B.b->(putRow (Value.int .i64) (Sort.ahead w n) B.b B.off D).heap[k]? = w.heap[k]? := λk hne=>by
  rw[hh k,Qo3,if_neg (Ne.symm hne)]
 have hsize:w.heap.size<=(putRow (Value.int .i64) (Sort.ahead w n) B.b B.off D).heap.size:=by
  rw[size_putRow];exact YK _
 have hme:(putRow (Value.int .i64) (Sort.ahead w n) B.b B.off D).heap[B.b]? = X (.cells (putCells (Value.int .i64) B.off D cs) E (0,0)):=by
  rw[hh _,Qo3,if_pos rfl,hb];rfl
 refine⟨_,.own 639 (KQ zs).length,[(639,.arr 1 ((KQ zs).map La))],Z,rfl,⟨rfl,λc ob h=>h⟩,rfl,rfl,rfl,hsize,λk hk hno=>?_,hi.inj,λo B h=>?_,λo B k h hk=>?_,λo B k h hk hl=>?_,⟨λo B _ h=>h,λo ob B _ _ h=>h⟩,.own _ _ B hB (by omega),λo ob h=>?_⟩
 ·exact ho k λe=>hno 639 B hB (e▸B.self)
 ·rw[hall o B h];exact⟨_,QB _ _ _⟩
 ·obtain⟨_,h2,_⟩:=hi.dom o B h;exact⟨AE (h2 k hk).1 hsize,λ_=>⟨o,B,h,hk⟩⟩
 ·obtain⟨h1,_,_⟩:=hi.dom o B h;omega
 by_cases e:639=o
 ·subst e;rw[QB]at h;cases h;refine .inl ⟨B,hB,hz1,?_,?_,_,E,hme,?_,?_⟩
  ·rw[KO];omega
  ·intro r hr;obtain⟨x,_,rfl⟩:=Ye.1 hr;exact⟨rfl,λv hv=>by simp[La]at hv;subst hv;rfl⟩
  ·simpa[putCells] using hsz
  intro i r hi' j v hj;rw[Ya]at hi';obtain⟨x,hx,rfl⟩:=Yf.1 hi';have hil:i<(KQ zs).length:=(QX.1 hx).1;have hil':i<zs.length:=by omega
  match j,hj with
  |0,hj=>
   cases hj;refine⟨.int .i64 x,?_,.i _ _⟩;rw[show i*1+0=i by omega];have h1:=hc i zs[i] (QI hil');have h2:D[i]! = x:=by
    subst hD;rw[getElem!_pos _ i (by simp;omega)];obtain⟨h3,h4⟩:=QX.1 hx;simp[List.getElem_append,h3,h4]
   simp only[putCells,Array.getElem?_mapIdx,h1,Jh];rw[if_pos ⟨by omega,by omega⟩,show B.off+i-B.off=i by omega,h2]
  |j+1,hj=>simp[La]at hj
 rw[Qz _ _ e]at h;cases h
def Qsd (s:ByteArray):Bool:=decide (s.size<4294967281)&&s.data.toList.all λb=>decide (b.toNat<128)
def Bm (s:ByteArray):L_ ByteArray:=(Lib.fields s.data.toList).map λl=>⟨l.toArray⟩
def QqW {P:Program}{ρ:Ren}(Ly:Lays.n157 P ρ)(hi9:(P.info? (ρ.t 9)).map (fun i=>(i.zero,i.size,i.bytes))=some (some (.string ByteArray.empty),1,16))(hg:P.globalNamed "strings.asciiSpace" = some (ρ.g 0))(s:ByteArray)(hs:Qsd s=true):
  QQ P (ρ.f 157) [.s s] [] (Gives (.own 600 (Bm s).length) [(600,.arr 1 ((Bm s).map λx=>[V.s x]))]):=by
 intro S Z w vals hi hG;have hsz:=hi.size;obtain⟨v0,hv0⟩:∃v0,vals=#[v0]:=by
  obtain⟨l⟩:=vals
  match l,hsz with|[x],_=>exact⟨x,rfl⟩
 subst hv0;have ha:=(hi.args 0 v0 _ rfl rfl).s_inv;subst ha;unfold Qsd at hs;rw[QL,decide_eq_true_iff,XM]at hs;obtain⟨hs1,hs2⟩:=hs;obtain⟨_,hl,hT⟩:=hG _ hg;have hno:∀o B,Z o≠X B:=λo B h=>by obtain⟨_,_,ob,hob⟩:=hi.dom o B h;cases hob
 refine(Any.strings_Fields_core Ly hi9 s w hs1 (λj b hb=>by simpa using hs2 b (XG hb)) hT).mono ?_;rintro e w' ⟨rfl,rfl⟩;have hlen:(Lib.fields s.data.toList).length=(Bm s).length:=by unfold Bm;simp
 rw[hlen];generalize hO:Obj.cells ((Lib.fields s.data.toList).map λl=>Value.string ⟨l.toArray⟩).toArray (ρ.t 9)=O;have hme:(w.alloc O).heap[w.heap.size]? = X O:=World.alloc_heap_new _ _;have hold:∀k,k<w.heap.size->(w.alloc O).heap[k]? = w.heap[k]? := λk hk=>Below.heap_alloc w O k hk;have hsize:(w.alloc O).heap.size=w.heap.size+1:=by simp
 have hφ:∀o B,(ext (λ_=>n_) 600 ⟨w.heap.size,(Bm s).length,1,[],0⟩) o=X B->o=600/\B=⟨w.heap.size,(Bm s).length,1,[],0⟩:=λo B h=>by
  unfold ext at h;split at h
  ·rename_i e;exact⟨e,(Option.some.inj h).symm⟩
  cases h
 have hhas:∀k,(⟨w.heap.size,(Bm s).length,1,[],0⟩:QV).has k->k=w.heap.size:=λk hk=>Qb3 hk;refine⟨_,.own 600 (Bm s).length,[(600,.arr 1 ((Bm s).map λx=>[V.s x]))],ext (λ_=>n_) 600 ⟨w.heap.size,(Bm s).length,1,[],0⟩,rfl,⟨rfl,λc ob h=>h⟩,rfl,rfl,rfl,by rw[hsize];omega,λk hk _=>hold k hk,λo o' B B' k h1 h2 _ _=>by rw[(hφ o B h1).1,(hφ o' B' h2).1],λo B h=>?_,λo B k h hk=>?_,λo B k h hk _=>?_,⟨λo B h1 h2=>by obtain⟨rfl,_⟩:=hφ o B h2;omega,λo ob B _ h2 h3=>absurd h3 (hno o B)⟩,.own _ _ _ (Xb _ _ _) (YK _),λo ob h=>?_⟩
 ·rw[(hφ o B h).1];exact⟨_,QB _ _ _⟩
 ·obtain⟨_,rfl⟩:=hφ o B h;have:=hhas k hk;rw[hsize];exact⟨by omega,λh=>by omega⟩
 ·obtain⟨_,rfl⟩:=hφ o B h;have:=hhas k hk;omega
 by_cases e:600=o
 ·subst e;rw[QB]at h;cases h;refine .inl ⟨_,Xb _ _ _,rfl,by simp,λr hr=>?_,_,_,by rw[hme,<-hO],by rw[<-hlen];simp,λi r hi' j v hj=>?_⟩
  ·obtain⟨x,_,rfl⟩:=Ye.1 hr;exact⟨rfl,λv hv=>by simp at hv;subst hv;rfl⟩
  rw[Ya]at hi';obtain⟨x,hx,rfl⟩:=Yf.1 hi'
  match j,hj with
  |0,hj=>
   cases hj;refine⟨.string x,?_,.s _⟩;unfold Bm at hx;rw[Ya]at hx;obtain⟨l,hl',rfl⟩:=Yf.1 hx;simp[hl']
  |j+1,hj=>simp at hj
 rw[Qz _ _ e]at h;cases h
section
variable {P:Program}{C:Xs}{Y:St}{o:Oper}
def PR (l:L_ Int):ByteArray:=l.foldl (λr n=>r.push (UInt8.ofNat n.toNat)) ByteArray.empty
def Stp.b2s {S T e d:Nat}{x:Operand}{l:L_ Int}{rows:L_ (L_ V)}(ho:o.op=.convert S T x)(hd:o.dst=X d)(hn:B_ d C)(hx:Y.opd x=X (.sl 1 rows))(hr:rows=l.map λx=>[V.i .u8 x])
  (hS:P.underlying S=X (.slice e)) (he:Qha P e .u8=t_) (hT:QeX P T=t_):Stp P C o Y (Y.put d (.s (PR l))):=by
 subst hr;refine Stp.same hd hn λZ a w hr=>⟨.string (PR l),?_,.dat (.s _)⟩;rcases(hr.opd hx).sl_inv with⟨a',cap,hv,h0⟩|⟨b,off,cap,hv,_,_,_,c,hc,O⟩
 ·have:l=[]:=by simpa using h0
  subst this;simp only[execOp,ho,hv,Xh,run_convert_bytes_string w S T e a' 0 cap hS (Qhb he) (Vo hT)];cases a' with
  |none=>simp[Conv.bytesToString,Xq,PR,ByteArray.empty,ByteArray.emptyWithCapacity]|some p=>
   rw[run_bytesToString w p 0 cap [] (by rw[run_loadCells w p 0 (λ_=>undef) (λj hj=>absurd hj (Nat.not_lt_zero _))];rfl)];simp[Xq,PR]
 rw[KO]at hv hc;simp only[execOp,ho,hv,Xh,run_convert_bytes_string w S T e _ _ cap hS (Qhb he) (Vo hT)];rw[run_bytesToString w ⟨b,off,n_⟩ l.length cap l ?_]
 ·simp[Xq,PR]
 rw[run_loadCells w ⟨b,off,n_⟩ l.length c (λj hj=>by rw[Addr.add_lit];exact hc j (by omega))];congr 1;have:(List.range l.length).map c=l.map (Value.int .u8):=by
  apply List.ext_getElem?;intro i;rw[Ya,Ya];by_cases h:i<l.length
  ·rw[List.getElem?_range h,QI h];have hd:=O i [V.i .u8 l[i]] (by rw[Ya,QI h];rfl) 0 (.i .u8 l[i]) rfl;rw[show i*1+0=i by omega]at hd;have:=(QR.dat (Z:=Z) hd).i_inv;simp[this]
  rw[Zh (by simpa using h),Zh (by simpa using h)];rfl
 rw[this]
def Stp.storeNil {T b i off z zz:Nat}{x y:Operand}{rs rs':L_ (L_ V)}{r:L_ V}(ho:o.op=.store T x y)(hd:o.dst=n_)(hx:Y.opd x=X (.loc b i off))
  (O:look Y.hp b=X (.arr z rs)) (hi:rs[i]? = X r) (hy:Y.opd y=X (.lit (.slice n_ 0 0))) (hs:BA P T=X 1) (h:Nat.ble (off+1) z=t_) (he:rs.set i (Wb r off [.sl zz []])=rs'):Stp P C o Y (Y.set b (.arr z rs')):=
 Stp.storeAV (v:=.sl zz []) ho hd hx O hi (λZ a w hr=>by rw[(hr.opd hy).lit_inv];exact .dat (.sl0 n_ 0 zz)) (.inl rfl) hs rfl rfl rfl h he
def Stp.max3 {d:Nat}{x y z:Operand}{k:IntKind}{m n q:Int}{ts:Array TypeId}(ho:o.op=.call { callee:=.builtin .max,args:=#[x,y,z],argTypes:=ts })(O:o.dst=X d)(hn:B_ d C)
  (hx:Y.opd x=X (.i k m)) (hy:Y.opd y=X (.i k n)) (hz:Y.opd z=X (.i k q)):Stp P C o Y (Y.put d (.i k (Vm.max2 (Vm.max2 m n) q))):=by
 refine Stp.same O hn λZ a w h=>⟨.int k (Vm.max2 (Vm.max2 m n) q),?_,.dat (.i _ _)⟩;simp[execOp,ho,(h.opd hx).i_inv,(h.opd hy).i_inv,(h.opd hz).i_inv,resolve,invoke,builtin,Builtin.max_,Builtin.max2,Vm.max2]
end
def Cl (w:World)(h:L_ Value)(vs:L_ V):Prop:=h.length=vs.length/\∀(j:Nat) c v,h[j]? = X c->vs[j]? = X v->XJ (λk=>k<w.heap.size) w c v
def Cl.nil {w:World}:Cl w [] []:=⟨rfl,λj c v h _=>by simp at h⟩
def Cl.one {w:World}{c:Value}{v:V}(h:XJ (λk=>k<w.heap.size) w c v):Cl w [c] [v]:=⟨rfl,λj c' v' O h2=>by
 match j with|0=>simp at O h2;subst O;subst h2;exact h|j+1=>simp at O⟩
def Cl.append {w:World}{a b:L_ Value}{u v:L_ V}(h:Cl w a u)(h2:Cl w b v):Cl w (a++b) (u++v):=by
 refine⟨by simp[h.1,h2.1],λj c x hc O=>?_⟩;by_cases hj:j<a.length
 ·rw[Yp hj]at hc;rw[Yp (by rw[<-h.1];exact hj)]at O;exact h.2 j c x hc O
 rw[YJ (by omega)]at hc;rw[YJ (by rw[<-h.1];omega)]at O;rw[<-h.1]at O;exact h2.2 _ c x hc O
def Rd {H α:Type}(enc:TypeId×Value->H)(P:Program)(w:World)(N:Nat)(t:TypeId)(row:α->L_ V)(wf:α->DataW H->Prop):Prop:=
 ∀(fuel:Nat) (h:L_ Value) (d:DataW H) (O:L_ MemPlace),fuel<=N->DataW.trod enc P w 0 (λ_=>t_) t_ fuel t h=X (d,O)->∃x,wf x d/\Cl w h (row x)
def Yj {H α:Type}(enc:TypeId×Value->H)(P:Program)(w:World)(N:Nat)(off tot:Nat)(fs:L_ (Nat×Nat))(row:α->L_ V)(O:α->L_ (DataW H)->Prop):Prop:=
 ∀(fuel:Nat) (h:L_ Value) (xs:L_ (DataW H×L_ MemPlace)),fuel<=N->h.length=off+tot->(fs.mapM λf=>DataW.trod enc P w 0 (λ_=>t_) t_ fuel f.1 ((h.drop f.2).take (P.cellsOf f.1)))=X xs->
  ∃x,O x (xs.map Prod.fst)/\Cl w (h.drop off) (row x)
section
variable {H:Type}{enc:TypeId×Value->H}{P:Program}{w:World}{N:Nat}{t:TypeId}
def Rd.mono {α:Type}{M:Nat}{row:α->L_ V}{O:α->DataW H->Prop}(h:Rd enc P w N t row O)(hM:M<=N):Rd enc P w M t row O:=λfuel cs d ps hf e=>h fuel cs d ps (Yx hf hM) e
def Rd.zero {α:Type}{row:α->L_ V}{h:α->DataW H->Prop}:Rd enc P w 0 t row h:=λfuel O d ps hf e=>by
 have:fuel=0:=by omega
 subst this;simp[DataW.trod]at e
def Rd.map {α β:Type}{row:α->L_ V}{wf:α->DataW H->Prop}{O:β->L_ V}{wf':β->DataW H->Prop}(g:α->β)(h:Rd enc P w N t row wf)(hr:∀x,row x=O (g x))(hw:∀x d,wf x d->wf' (g x) d):Rd enc P w N t O wf':=λfuel cs d ps hf e=>by
 obtain⟨x,h1,h2⟩:=h fuel cs d ps hf e;exact⟨g x,hw x d h1,by rw[<-hr];exact h2⟩
def Rd.int {k:IntKind}(ht:P.underlying t=X (.int k)):Rd enc P w N t (λn:Int=>[V.i k n]) (λn d=>(Lit.int k n).wf=t_/\d=.lit (.int k n)):=by
 intro fuel cs d ps _ e;cases fuel with
 |zero=>simp[DataW.trod]at e|succ fuel=>
  simp only[DataW.trod,ht]at e;split at e
  all_goals first|(cases e;done)|(rename_i h;cases h;done)|skip
  rename_i h;cases h;split at e
  ·rename_i hc;obtain⟨rfl,O⟩:=hc;cases e;exact⟨_,⟨O,rfl⟩,Cl.one (.i _ _)⟩
  cases e
def Rd.bool (O:P.underlying t=X .bool):Rd enc P w N t (λn:Bool=>[V.b n]) (λn d=>d=.lit (.bool n)):=by
 intro fuel cs d ps _ e;cases fuel with
 |zero=>simp[DataW.trod]at e|succ fuel=>
  simp only[DataW.trod,O]at e;split at e
  all_goals first|(cases e;done)|(rename_i h;cases h;done)|skip
  cases e;exact⟨_,rfl,Cl.one (.b _)⟩
def Rd.string (ht:P.underlying t=X .string):Rd enc P w N t (λn:ByteArray=>[V.s n]) (λn d=>n.size<=maxLen/\d=.lit (.string n.data.toList)):=by
 intro fuel cs d ps _ e;cases fuel with
 |zero=>simp[DataW.trod]at e|succ fuel=>
  simp only[DataW.trod,ht]at e;split at e
  all_goals first|(cases e;done)|(rename_i O;cases O;done)|skip
  split at e
  ·rename_i h;cases e;exact⟨_,⟨h,rfl⟩,Cl.one (.s _)⟩
  cases e
def Qyn {α:Type}{Q:Nat->α->Prop}:∀n:Nat,(∀i,i<n->∃x,Q i x)->∃l:L_ α,l.length=n/\∀i x,l[i]? = X x->Q i x:=by
 intro n
 induction n with
 |zero=>intro _;exact⟨[],rfl,λi x h=>by simp at h⟩|succ n ih=>
  intro h;obtain⟨l,h1,h2⟩:=ih λi hi=>h i (by omega);obtain⟨x,hx⟩:=h n (by omega);refine⟨l++[x],by simp[h1],λi y O=>?_⟩;by_cases hi:i<l.length
  ·rw[Yp hi]at O;exact h2 i y O
  have:=(QX.1 O).1;simp at this;have:i=l.length:=by omega
  subst this;simp at O;subst O;rw[h1];exact hx
def wfL {α:Type}(h:α->DataW H->Prop)(l:L_ α)(d:DataW H):Prop:=l.length<=maxLen/\((d=.nil/\l=[])\/∃es sp,d=.slice es sp/\es.length=l.length/\∀(i:Nat) x e,l[i]? = X x->es[i]? = X e->h x e)
def Rd.slice {α:Type}{e z:Nat}{row:α->L_ V}{wf:α->DataW H->Prop}(ht:P.underlying t=X (.slice e))(hz:P.cellsOf e=z)(hz0:0<z)(hrow:∀x,Uw z (row x))(he:Rd enc P w N e row wf):
  Rd enc P w N t (λl:L_ α=>[V.sl z (l.map row)]) (wfL wf):=by
 subst hz;intro fuel cs d ps hN h;cases fuel with
 |zero=>simp[DataW.trod]at h|succ fuel=>
  simp only[DataW.trod,ht]at h;split at h
  all_goals first|(cases h;done)|(rename_i hq;cases hq;done)|skip
  ·cases h;exact⟨[],⟨Nat.zero_le _,.inl ⟨rfl,rfl⟩⟩,Cl.one (.sl0 _ _ _)⟩
  rename_i a len cap hq;cases hq;split at h
  ·rename_i hc;obtain⟨_,hlc,hcm⟩:=hc;obtain⟨O,hel,h⟩:=Pg.1 h;obtain⟨rest,_,h⟩:=Yf.1 h;have hlen:O.length=len:=by simpa using mapM_some_length hel
   have hat:∀i,i<len->∃y rc,O[i]? = X y/\w.cells? 0 (a.add (i*P.cellsOf e)) (P.cellsOf e)=X rc/\DataW.trod enc P w 0 (λ_=>t_) t_ fuel e rc=X y:=λi hi=>by
    have:=mapM_some_get hel i i (by simp[hi]);obtain⟨y,hy⟩:∃y,O[i]? = X y:=⟨_,QI (by omega)⟩;rw[hy]at this;obtain⟨rc,h1,h2⟩:=Pg.1 this;exact⟨y,rc,hy,h1,h2⟩
   obtain⟨l,hl,hQ⟩:=Qyn (Q:=λi x=>∃y rc,O[i]? = X y/\w.cells? 0 (a.add (i*P.cellsOf e)) (P.cellsOf e)=X rc/\wf x y.1/\Cl w rc (row x)) len λi hi=>by
    obtain⟨y,rc,h1,h2,h3⟩:=hat i hi;obtain⟨x,h4,h5⟩:=he fuel rc y.1 y.2 (by omega) h3;exact⟨x,y,rc,h1,h2,h4,h5⟩
   have hd:d=.slice (O.map (·.1)) (rest.map (·.1)):=by cases h;rfl
   refine⟨l,⟨by omega,.inr ⟨_,_,hd,by simp[hl,hlen],λi x e' hx he'=>?_⟩⟩,Cl.one ?_⟩
   ·obtain⟨y,rc,h1,_,h3,_⟩:=hQ i x hx;rw[Ya,h1]at he';cases he';exact h3
   by_cases h0:len=0
   ·have:l=[]:=Np.1 (by omega);subst this;subst h0;exact .sl0 _ _ _
   obtain⟨b,off,spot⟩:=a;obtain⟨y0,rc0,_,h02,_⟩:=hat 0 (by omega);have hs:spot=n_:=by
    obtain⟨_,h2,h3⟩:=World.cells?_some h02;have h4:=h3 0 hz0;obtain⟨c0,hc0⟩:∃c0,rc0[0]? = X c0:=⟨_,QI (by omega)⟩;rw[hc0]at h4;simpa[Addr.add] using World.cell?_spot h4
   subst hs;have hb:b<w.heap.size:=by
    have hb:=World.cells?_block h02 hz0;rwa[WideShapes.add_plain]at hb
   have hcell:∀i,i<len->∀rc,w.cells? 0 ((⟨b,off,n_⟩:Addr).add (i*P.cellsOf e)) (P.cellsOf e)=X rc->rc.length=P.cellsOf e/\∀j,j<P.cellsOf e->w.cell? ⟨b,off+(i*P.cellsOf e+j),n_⟩=rc[j]? := λi hi rc h=>by
    obtain⟨_,h2,h3⟩:=World.cells?_some h;refine⟨h2,λj hj=>?_⟩;have:=h3 j hj;rw[WideShapes.add_plain,WideShapes.add_plain]at this;rw[<-Ns];exact this
   refine .sl b off len cap (P.cellsOf e) (l.map row) (λj=>(w.cell? ⟨b,off+j,n_⟩).getD undef) hb (by simp[hl]) hlc (λr hr=>by obtain⟨x,_,rfl⟩:=Ye.1 hr;exact hrow x) (λj hj=>?_) (λi r hr j v hv=>?_)
   ·have hij:j / P.cellsOf e<len:=Nat.div_lt_of_lt_mul (by rw[Nat.mul_comm];exact hj);obtain⟨y,rc,_,h2,_⟩:=hat (j / P.cellsOf e) hij;obtain⟨h3,h4⟩:=hcell _ hij rc h2;have h5:=h4 (j % P.cellsOf e) (Nat.mod_lt _ hz0);rw[Nat.mul_comm (j / P.cellsOf e),Nat.div_add_mod]at h5;rw[h5];have:j % P.cellsOf e<rc.length:=by rw[h3];exact Nat.mod_lt _ hz0
    rw[QI this];rfl
   rw[Ya]at hr;obtain⟨x,hx,rfl⟩:=Yf.1 hr;have hi:i<len:=by rw[<-hl];exact(QX.1 hx).1
   obtain⟨y,rc,_,h2,_,h3⟩:=hQ i x hx;obtain⟨h4,h5⟩:=hcell i hi rc h2;have hj:j<P.cellsOf e:=by rw[<-(hrow x).1];exact(QX.1 hv).1
   have h6:=h5 j hj;obtain⟨c,hc⟩:∃c,rc[j]? = X c:=⟨_,QI (by omega)⟩;rw[hc]at h6;show XJ _ w ((w.cell? ⟨b,off+(i*P.cellsOf e+j),n_⟩).getD undef) v;rw[h6];exact h3.2 j c v hc hv
  cases h
def Yj.nil {off:Nat}:Yj enc P w N off 0 [] (λ_:Unit=>[]) (λ_ xs=>xs=[]):=λfuel O xs _ hl h=>by
 simp at h;subst h;exact⟨(),rfl,by rw[List.drop_of_length_le (by omega)];exact Cl.nil⟩
def Yj.cons {α β:Type}(t off z:Nat){tot:Nat}{fs:L_ (Nat×Nat)}{O:α->L_ V}{row2:β->L_ V}{wf1:α->DataW H->Prop}{wf2:β->L_ (DataW H)->Prop}(hz:P.cellsOf t=z)
  (h1:Rd enc P w N t O wf1) (h2:Yj enc P w N (off+z) tot fs row2 wf2):Yj enc P w N off (z+tot) ((t,off)::fs) (λx:α×β=>O x.1++row2 x.2) (λx ds=>∃d r,ds=d::r/\wf1 x.1 d/\wf2 x.2 r):=by
 intro fuel cs xs hN hl h;subst hz;rw[List.mapM_cons]at h;obtain⟨y,hy,h⟩:=Pg.1 h;obtain⟨ys,hys,h⟩:=Pg.1 h;cases h;obtain⟨x1,a1,a2⟩:=h1 fuel _ y.1 y.2 hN hy;obtain⟨x2,b1,b2⟩:=h2 fuel cs ys hN (by omega) hys;refine⟨(x1,x2),⟨y.1,ys.map Prod.fst,rfl,a1,b1⟩,?_⟩;have:cs.drop off=(cs.drop off).take (P.cellsOf t)++cs.drop (off+P.cellsOf t):=by
  rw[<-List.drop_drop,List.take_append_drop]
 rw[this];exact a2.append b2
def Qkh (P:Program)(t:TypeId)(fs:L_ (Nat×Nat))(tot:Nat):Bool:=match P.underlying t with|some (.struct gs)=>(gs.toList.map λf=>(f.type,f.offset))==fs&&P.cellsOf t==tot|_=>f_
def QlB {t tot:Nat}{fs:L_ (Nat×Nat)}(h:Qkh P t fs tot=t_):∃gs,P.underlying t=X (.struct gs)/\(gs.toList.map λf=>(f.type,f.offset))=fs/\P.cellsOf t=tot:=by
 unfold Qkh at h;split at h
 ·rename_i gs O;rw[QL,beq_iff_eq,beq_iff_eq]at h;exact⟨gs,O,h.1,h.2⟩
 cases h
def Rd.struct {α:Type}{fs:L_ (Nat×Nat)}{tot:Nat}{row:α->L_ V}{wf:α->L_ (DataW H)->Prop}(hB:Qkh P t fs tot=t_)(hf:Yj enc P w N 0 tot fs row wf):
  Rd enc P w (N+1) t row (λx d=>∃ds,d=.agg ds/\wf x ds):=by
 obtain⟨gs,ht,O,hc⟩:=QlB hB;intro fuel cs d ps hN h;cases fuel with
 |zero=>simp[DataW.trod]at h|succ fuel=>
  simp only[DataW.trod,ht]at h;split at h
  ·rename_i hl;obtain⟨xs,hxs,h⟩:=Yf.1 h;cases h;obtain⟨x,a1,a2⟩:=hf fuel cs xs (by omega) (by rw[hl,hc];omega) (by rw[<-O,List.mapM_map];exact hxs);exact⟨x,⟨_,rfl,a1⟩,a2⟩
  cases h
def Qse (P:Program)(t e n tot:Nat)(fs:L_ (Nat×Nat)):Bool:=match P.underlying t with|some (.array m e')=>m==n&&e'==e&&P.cellsOf t==tot&&((List.range n).map λi=>(e,i*P.cellsOf e))==fs|_=>f_
def QtY {t e n tot:Nat}{fs:L_ (Nat×Nat)}(h:Qse P t e n tot fs=t_):P.underlying t=X (.array n e)/\P.cellsOf t=tot/\((List.range n).map λi=>(e,i*P.cellsOf e))=fs:=by
 unfold Qse at h;split at h
 ·rename_i m e' hg;simp only[QL,beq_iff_eq]at h;obtain⟨⟨⟨rfl,rfl⟩,h⟩,O⟩:=h;exact⟨hg,h,O⟩
 cases h
def Rd.array {α:Type}{e n tot:Nat}{fs:L_ (Nat×Nat)}{row:α->L_ V}{wf:α->L_ (DataW H)->Prop}(hB:Qse P t e n tot fs=t_)(hf:Yj enc P w N 0 tot fs row wf):
  Rd enc P w (N+1) t row (λx d=>∃ds,d=.agg ds/\wf x ds):=by
 obtain⟨ht,hc,O⟩:=QtY hB;intro fuel cs d ps hN h;cases fuel with
 |zero=>simp[DataW.trod]at h|succ fuel=>
  simp only[DataW.trod,ht]at h;split at h
  ·rename_i hl;obtain⟨xs,hxs,h⟩:=Yf.1 h;cases h;obtain⟨x,a1,a2⟩:=hf fuel cs xs (by omega) (by rw[hl,hc];omega) (by rw[<-O,List.mapM_map];exact hxs);exact⟨x,⟨_,rfl,a1⟩,a2⟩
  cases h
def BC (k:IntKind)(n:Int):Prop:=k.min<=n/\n<=k.max
def okS (s:ByteArray):Prop:=s.size<=maxLen
def AU {α:Type}(ok:α->Prop)(l:L_ α):Prop:=l.length<=maxLen/\∀x∈l,ok x
def Qyo {k:IntKind}{n:Int}{d:DataW H}(h:(Lit.int k n).wf=t_/\d=.lit (.int k n)):BC k n:=by
 have:=h.1;simp only[Lit.wf,QL,QT]at this;exact this
def Pj {α:Type}{ok:α->Prop}{l:L_ α}{d:DataW H}(h:wfL (λx _=>ok x) l d):AU ok l:=by
 refine⟨h.1,λx hx=>?_⟩;rcases h.2 with⟨_,rfl⟩|⟨es,sp,_,h3,h4⟩
 ·simp at hx
 obtain⟨i,hi⟩:=GD.1 hx;have O:i<es.length:=by rw[h3];exact(QX.1 hi).1
 exact h4 i x _ hi (QI O)
def Qwj {w:World}{r:Reach}{base t tot:Nat}{v:Value}{fs:L_ (Nat×Nat)}(h:Qkh P t fs tot=t_)(hv:Value.okWide P w r base t v):∃O,v=.agg O:=by
 obtain⟨gs,h1,_⟩:=QlB h;obtain⟨O,h2,_⟩:=WideShapes.okWide_struct h1 hv;exact⟨O,h2⟩
def Es {z:Nat}{r:L_ V}(h:(Nat.beq r.length z&&r.all V.one)=t_):Uw z r:=by
 rw[QL,XM]at h;exact⟨Yr h.1,h.2⟩
end
section
variable {H:Type}{enc:TypeId×Value->H}{P:Program}
def QQ.law {f:FuncId}{us:L_ V}{args:Array Value}{W:World}(h:QQ P f us [] (Gives (.b t_) []))(hG:QaD P (λk=>k<W.heap.size) W)(hs:args.size=us.length)
  (ha:∀(j:Nat) x v,args[j]? = X x->us[j]? = X v->XJ (λk=>k<W.heap.size) W x v):Calls P f args W λe w'=>e=.returned (.bool t_)/\Below W.heap.size W w':=by
 refine(h (λk=>k<W.heap.size) (λ_=>n_) W args ⟨λk O=>O,λ_ _ _ _ _ h=>(by cases h),λ_ _ h=>(by cases h),hs,λj x v h1 h2=>.dat (ha j x v h1 h2),λ_ _ h=>(by cases h)⟩ hG).mono ?_;rintro e w' ⟨x,v,hs',φ',rfl,⟨rfl,_⟩,out⟩;exact⟨by rw[out.rep.b_inv],out.os,out.tape,out.output,out.size,λk O=>out.kept k O λ_ _ h=>by cases h⟩
def QhN (hl:laidOutB P=t_){W W':World}(hb:Below W.heap.size W W'):∀{ts:L_ TypeId} {vs:L_ Value} {ds:L_ (DataW H)} {ps:L_ MemPlace},(∀t∈ts,P.readableRec t=t_/\t<P.types.size)->
  DataW.TrodAll enc P W 0 (λ_=>t_) t_ ts vs ds ps->(∀x∈ps,x.block<W.heap.size)->DataW.TrodAll enc P W' 0 (λb=>decide (b<W.heap.size)) t_ ts vs ds ps
 |[],[],[],_,_,h,_=>h|t::ts,v::vs,d::ds,_,hr,⟨p,q,h1,h2,e⟩,O=>⟨p,q,Below.trod hl (hr t (Yd)).1 (hr t (Yd)).2 h1 hb (λx hx=>O x (by rw[e];exact Zj _ hx)),
   QhN hl hb (λt ht=>hr t (Yq _ ht)) h2 (λx hx=>O x (by rw[e];exact List.mem_append_right _ hx)),e⟩
def Qwk {f:Func}{s:ChangeSpec}{O fresh:Bool}{W W':World}{args:Array Value}{ds:L_ (DataW H)}{before:L_ MemPlace}{tb:TypeId}(hl:laidOutB P=t_)(hr:∀t∈f.params.toList,P.readableRec t=t_/\t<P.types.size)
  (hW:DataW.Whole enc P f.params.toList s.vars O W args.toList ds [] before) (hv:s.vars=[]) (hb:Below W.heap.size W W') (hrt:f.resultTypes=#[tb]) (htb:P.underlying tb=X .bool)
  (hres:(s.fn H (ds++[])).results=[.lit (.bool t_)]) (hargs:(s.fn H (ds++[])).args=ds) (hvars:(s.fn H (ds++[])).vars=[]):s.post enc P f O fresh f_ f_ W args (.bool t_) W':=by
 have hW0:=hW;obtain⟨p,q,hA,hV,rfl,_,_⟩:=hW;have hlt:=hW0.lt;rw[hv]at hV;have hq:q=[]:=hV;subst hq;refine⟨ds,[],_,[],p,[],hW0,?_,?_,?_,?_,λh=>by cases h⟩
 ·rw[hres,hrt];exact⟨[],[],shut_bool htb t_,rfl,rfl⟩
 ·rw[hargs];exact QhN hl hb hr hA λx hx=>hlt x (Zj _ hx)
 ·rw[hvars,hv];rfl
 exact World.keptBut_mono (λp hp=>hp.elim) (hb.frame (λ_=>False))
def Cl.arg1 {w:World}{v:Value}{x:V}(O:v.cells.toList=[v])(h:Cl w v.cells.toList [x]):XJ (λk=>k<w.heap.size) w v x:=h.2 0 v x (by rw[O];rfl) rfl
def Cl.argS {w:World}{O:Array Value}{vs:L_ V}(h:Cl w (Value.agg O).cells.toList vs):XJ (λk=>k<w.heap.size) w (.agg O) (.agg vs):=by
 refine .agg O vs (by simpa[Value.cells] using h.1) λj x v hx hv=>h.2 j x v (by simpa[Value.cells] using hx) hv
def Rd.open {α:Type}{w:World}{t:TypeId}{row:α->L_ V}{O:α->DataW H->Prop}{v:Value}{d:DataW H}{p:L_ MemPlace}(h:∀N,Rd enc P w N t row O)(hd:DataW.Trod enc P w 0 (λ_=>t_) t_ t v d p):∃x,O x d/\Cl w v.cells.toList (row x):=by
 obtain⟨n,hn⟩:=hd;exact h n n _ _ _ (YK _) hn
end
section
variable {P:Program}{C:Xs}{Q:Exit->St->Prop}{Y:St}{ks:L_ Fr}{o:Oper}
def Qqx {σ':St}{Z φ':Prop}{d f:Nat}{vs us:L_ V}{M N:L_ (Nat×Nat)}{dead:L_ Nat}{ms:L_ Mode}{outs hsC:H_}{r:V}
  (hus:PQ (Dl M) ms vs=X us) (hC:CS (Dl M) (look Y.hp) M=X hsC)
  (e:cmV P Y Z d f vs M N dead ms outs r=X (σ',φ')):∃O r',DA Y M N dead outs=t_/\(M.map Prod.fst).Nodup/\Vws Y.hp f_ f_ (Uz M) (λa b=>look M b=X a) vs us/\OH Y.hp f_ f_ (Uz M) (λa b=>look M b=X a) Y.hp M hsC/\
   OH [] f_ f_ [] (λc b=>look N b=X c) outs N O/\Vw [] f_ f_ [] (λc b=>look N b=X c) r r'/\σ'=(Y.after dead O).put d r':=by
 unfold cmV at e;replace e:=XV e;obtain⟨e1,e⟩:=e;simp only[QL]at e1;obtain⟨⟨h1,h2⟩,h3⟩:=e1;have h2:=WD.1 h2;have h3:=WD.1 h3;have inj:Ho M=t_/\Ho N=t_:=by
  simp only[DA,QL]at h1;exact⟨h1.1.1.1,h1.1.1.2⟩
 have mM:∀a b,Dl M a=X b->look M b=X a:=λa b h=>JX inj.1 (Bk h) h2;have mN:∀a b,Dl N a=X b->look N b=X a:=λa b h=>JX inj.2 (Bk h) h3;simp only[hus,hC]at e;split at e
 ·rename_i O hN;split at e
  ·rename_i r' hr;cases e;exact⟨O,r',h1,h2,IV mM hus,Dj mM hC,Dj mN hN,Mn mN hr,rfl⟩
  cases e
 cases e
def AK.callE {ι:Type}[Inhabited ι]{Φ:ι->Prop}{d f n:Nat}{ops:Array Oper}{rest:L_ Oper}{vs us:L_ V}{hsC:H_}(M N:L_ (Nat×Nat))(dead:L_ Nat)(ms:L_ Mode)(outs:ι->H_)(r:ι->V)(σ':ι->St)
  (hg:o.guard=n_) (hCn:JA P C n) (hE:Jo P C o Y f vs) (hd:o.dst=X d) (hn:B_ d C)
  (hus:PQ (Dl M) ms vs=X us) (hC:CS (Dl M) (look Y.hp) M=X hsC)
  (hc:QQ P f us hsC λv hs=>∃x,Φ x/\Gives (r x) (outs x) v hs)
  (e:∀x,∃φ',cmV P Y True d f vs M N dead ms (outs x) (r x)=X (σ' x,φ'))
  (k:∀x,Φ x->AK P C Q (.o ops rest) ks (σ' x)):AK P C Q (.o ops (o::rest)) ks Y:=by
 intro a w ⟨Z,hr⟩;simp only[wpListIn,Region.wanted,hg,if_true];refine⟨λ_ _=>trivial,?_⟩;obtain⟨vals,hex,h1,h2⟩:=hE Z a w hr;rw[Qj8 hex,Oper.uponIn_enter];obtain⟨_,e0⟩:=e default;obtain⟨_,_,n1,n2,hv,O,_,_,_⟩:=Qqx hus hC e0;have hN0:=Names.of n1 n2;refine⟨(λh=>by cases h),QiA ((hc _ _ w _ (Ins.of_vals hr h1 h2 hN0.injM hN0.param hv O) ((hr.glob hCn.g).mono λ_ h=>.inl h)).mono ?_)⟩;rintro e' w' ⟨x,v,hs',φ',rfl,⟨i,hΦ,rfl,hso⟩,hout⟩;obtain⟨_,ei⟩:=e i;obtain⟨hsN,r',n1,n2,_,_,hback,hr',hσ⟩:=Qqx hus hC ei;have hN:=Names.of n1 n2;obtain⟨h3,h4⟩:=hr.after hN hout hso (λc s h=>by
  obtain⟨ob',e1⟩:=O.get.2 c s h;obtain⟨s',ob,e2,e3,_⟩:=O.get.1 c ob' e1;rw[h]at e2;cases e2;exact⟨ob,e3⟩) hback
 refine k i hΦ _ _ ⟨OI Z M N dead φ',?_⟩;rw[hd,hσ];exact h3.put (Xv hn) (h4 hr')
def Qqy {σ':St}{φ':Prop}{f:Nat}{vs us:L_ V}{M N:L_ (Nat×Nat)}{dead:L_ Nat}{ms:L_ Mode}{outs hsC:H_}{r:V}
  (hus:PQ (Dl M) ms vs=X us) (hC:CS (Dl M) (look Y.hp) M=X hsC)
  (e:rgV P Y f vs M N dead ms outs r=X (σ',φ')):∃O,DA Y M N dead outs=t_/\(M.map Prod.fst).Nodup/\Vws Y.hp f_ f_ (Uz M) (λa b=>look M b=X a) vs us/\OH Y.hp f_ f_ (Uz M) (λa b=>look M b=X a) Y.hp M hsC/\
   OH [] f_ f_ [] (λc b=>look N b=X c) outs N O/\σ'=Y.after dead O:=by
 unfold rgV at e;replace e:=XV e;obtain⟨e1,e⟩:=e;simp only[QL]at e1;obtain⟨⟨h1,h2⟩,h3⟩:=e1;have h2:=WD.1 h2;have h3:=WD.1 h3;have inj:Ho M=t_/\Ho N=t_:=by
  simp only[DA,QL]at h1;exact⟨h1.1.1.1,h1.1.1.2⟩
 have mM:∀a b,Dl M a=X b->look M b=X a:=λa b h=>JX inj.1 (Bk h) h2;have mN:∀a b,Dl N a=X b->look N b=X a:=λa b h=>JX inj.2 (Bk h) h3;simp only[hus,hC]at e;split at e
 ·rename_i O hN;cases e;exact⟨O,h1,h2,IV mM hus,Dj mM hC,Dj mN hN,rfl⟩
 cases e
def AK.rangeFE {ι:Type}[Inhabited ι]{Φ:ι->Prop}{g:Operand}{ps:Array Tmp}{assign body:Code}{f n:Nat}{fs cps:L_ V}(b:Nat)(ts:L_ Nat)(M N:L_ (Nat×Nat))(dead:L_ Nat)(ms:L_ Mode)(K:Nat->Ec)(hCn:JA P C n)(hrnd:C.rnd=n_)(hK:∀fn,K fn=⟨fn,ps,assign,body⟩)
  (hg:Y.opd g=X (.clo (.func f) fs cps)) (he:QeZ P f=t_) (hb:look Y.hp b=n_) (hb2:Nat.ble 639 b=f_)
  (H:∀l fn,∃(outs:ι->H_) (r:ι->V) (σ2:ι->St) (us:L_ V) (hsC:H_),PQ (Dl M) ms (fs++(.clo (.yield l) [] []::cps))=X us/\CS (Dl M) (look (Y.set b (.lp l (K fn) (snap ts Y.fr n) 0)).hp) M=X hsC/\
   QQ P f us hsC (λv hs=>∃x,Φ x/\Gives (r x) (outs x) v hs)/\∀x,∃φ2 cs2 q,rgV P (Y.set b (.lp l (K fn) (snap ts Y.fr n) 0)) f (fs++(.clo (.yield l) [] []::cps)) M N dead ms (outs x) (r x)=X (σ2 x,φ2)/\look (σ2 x).hp b=X (.lp l (K fn) cs2 q)/\q≠1/\
   (Φ x->atJ (AK P C Q (.x .normal) ks ((σ2 x).kill b)) (λc=>AK P C Q (.c c) ks ((σ2 x).kill b)) (jmp q))):AK P C Q (.c (.rangeFunc g ps assign body)) ks Y:=by
 obtain rfl:K=λfn=>⟨fn,ps,assign,body⟩:=funext hK;have hpg:=hCn.g;replace hCn:=hCn.n;subst hCn;intro a w ⟨Z,hr⟩;refine wpIn_rangeFunc λfn _=>?_;obtain⟨outs,r,σ2,us,hsC,hus,hC,hcall,hx⟩:=H (w.heap.size+1) fn;obtain⟨xs,ys,hev,e1,e2,e3,e4⟩:=(hr.opd hg).clo_inv;have hb3:b<639:=Bj (by rw[hb2];rfl);refine⟨w.heap.size+1,[{ target:=.collected w.heap.size,args:=#[] }],(w.alloc (.deferred (X []))).alloc (.loop { state:=.ready,pending:=n_,fn,tmps:=a.tmps,params:=ps,assign,body,defers:=w.heap.size }),{ target:=.fn (.func f) ys,args:=xs++#[.func (.yield (w.heap.size+1)) #[] #[]] },(w.alloc (.deferred (X []))).alloc (.loop { state:=.ready,pending:=n_,fn,tmps:=a.tmps,params:=ps,assign,body,defers:=w.heap.size }),f,(xs++#[.func (.yield (w.heap.size+1)) #[] #[]])++ys,(w.alloc (.deferred (X []))).alloc (.loop { state:=.ready,pending:=n_,fn,tmps:=a.tmps,params:=ps,assign,body,defers:=w.heap.size }),?_,?_,λ_ _=>trivial,?_,(λh=>by cases h),?_⟩
 ·rw[show C.F.round=n_ from hrnd];exact run_enterLoop_outer _ _ _ _ _
 ·have hy:a.eval (.const (.func (.yield (w.heap.size+1)) #[] #[]))=.func (.yield (w.heap.size+1)) #[] #[]:=rfl;simp only[resolve,hev,Deferred.ofValue,Xq,List.map_toArray,GC,List.map_nil,hy]
 ·exact Mj he
 have hm:=hr.mark;have hN0:=hm.none_of_look hb;have hsz:(w.alloc (.deferred (X []))).heap.size=w.heap.size+1:=by simp
 have hR1:=hm.alloc (cap:=0) (z:=0) hb hb3 (ob:=.lp (w.heap.size+1) ⟨fn,ps,assign,body⟩ (snap ts Y.fr C.n) 0)
  (obj:=.loop { state:=.ready,pending:=n_,fn,tmps:=a.tmps,params:=ps,assign,body,defers:=w.heap.size })
  ⟨a.tmps,w.heap.size,hsz,rfl,by rw[<-hsz];exact World.alloc_heap_new _ _,by rw[hr.tmps];simp[Vm.snap],λj x v hx hv=>(hm.snap j x v hx hv).mono (hm.mono_ext _ hN0) (hm.imm_alloc b 0 0 _ hN0)⟩
 rw[hsz]at hR1;generalize hσ1:Y.set b (.lp (w.heap.size+1) ⟨fn,ps,assign,body⟩ (snap ts Y.fr C.n) 0)=σ1 at hR1 hx hC;generalize hw1:(w.alloc (.deferred (X []))).alloc (.loop { state:=.ready,pending:=n_,fn,tmps:=a.tmps,params:=ps,assign,body,defers:=w.heap.size })=w1 at hR1 ⊢;have hval:(xs++#[.func (.yield (w.heap.size+1)) #[] #[]])++ys=(xs.toList++(.func (.yield (w.heap.size+1)) #[] #[]::ys.toList)).toArray:=by apply Array.ext';simp
 rw[hval];obtain⟨_,_,_,ed,_⟩:=hx default;obtain⟨_,n1,n2,hv,hobs,_,_⟩:=Qqy hus hC ed;have hNm:=Names.of n1 n2;have hfr1:σ1.fr=Y.fr:=by rw[<-hσ1];rfl
 refine QiA ((hcall _ _ w1 _ (Ins.of_vals (g:=f_) (vs:=fs++(.clo (.yield (w.heap.size+1)) [] []::cps)) hR1 (by simp[e1,e2]) (λj x v hx hv=>?_) hNm.injM hNm.param hv hobs) ((hR1.glob hpg).mono λ_ h=>.inl h)).mono ?_)
 ·have up:=λ{x:Value} {v:V} (h:QR Z (Xc C Z w) w x v)=>(h.mono (φ':=Z) (I':=Xc C Z (w.alloc (.deferred (X [])))) (w':=w.alloc (.deferred (X []))) (λ_ _ h=>h) λk hk=>⟨⟨by have:=hk.1;simp;omega,hk.2⟩,Below.heap_alloc w _ k hk.1⟩).mono (hm.mono_ext ⟨w.heap.size+1,0,0,[],0⟩ hN0) (by
   have:=hm.imm_alloc b 0 0 (.loop { state:=.ready,pending:=n_,fn,tmps:=a.tmps,params:=ps,assign,body,defers:=w.heap.size }) hN0;rw[hsz,hw1]at this;exact this)
  by_cases c1:j<fs.length
  ·rw[Yp (by simpa using (by omega:j<xs.size))]at hx;rw[Yp c1]at hv;exact up (e3 j x v (by simpa using hx) hv)
  rw[YJ (by simp;omega)]at hx;rw[YJ (by omega)]at hv;simp only[Array.length_toList]at hx;rw[e1]at hx;generalize j-fs.length=i at hx hv;cases i with
  |zero=>
   simp at hx hv;subst hx;subst hv;exact .clo (.yield _) #[] #[] [] [] rfl rfl (λj x v h=>by simp at h) (λj x v h=>by simp at h)
  |succ i=>simp only[QgO]at hx hv;exact up (e4 i x v (by simpa using hx) hv)
 rintro e w' ⟨x,v,hs',φ',rfl,⟨i,hΦ,rfl,hso⟩,hout⟩;obtain⟨_,cs2,q,ei,hq,hq1,hk⟩:=hx i;replace hk:=hk hΦ;obtain⟨hsN,n1,n2,_,_,hback,hσ2⟩:=Qqy hus hC ei;have hNm:=Names.of n1 n2;obtain⟨k3,_⟩:=hR1.after hNm hout hso (λc s h=>by
  obtain⟨ob',e1⟩:=hobs.get.2 c s h;obtain⟨s',ob,e2,e3,_⟩:=hobs.get.1 c ob' e1;rw[h]at e2;cases e2;exact⟨ob,e3⟩) hback
 rw[<-hσ2]at k3;obtain⟨B,hB,tmps,D,f1,f2,f3,f4,f5⟩:=k3.lp hq;have hst:lst q≠.busy:=by
  match q,hq1 with
  |0,_=>exact(by intro h;cases h)
  |1,h=>exact absurd rfl h|k+2,_=>exact(by intro h;cases h)
 refine⟨_,_,run_endLoop f3 hst,?_⟩;have O:=k3.killTo hB (w':=w'.putObj (w.heap.size+1) (.loop { state:=.exhausted,pending:=jmp q,fn,tmps,params:=ps,assign,body,defers:=D })) rfl rfl rfl World.putObj_size (λk hk=>World.putObj_heap_other (by rw[<-f1];exact hk));simp only;cases hj:jmp q with|none=>rw[hj]at hk O;exact hk _ _ ⟨_,O⟩|some c=>rw[hj]at hk O;exact hk _ _ ⟨_,O⟩
def AK.rangeF {Q:Exit->St->Prop}{ks:L_ Fr}{g:Operand}{ps:Array Tmp}{assign body:Code}{f n:Nat}{fs cps:L_ V}(b:Nat)(ts:L_ Nat)(M N:L_ (Nat×Nat))(dead:L_ Nat)(ms:L_ Mode)(K:Nat->Ec)(hCn:JA P C n)(hrnd:C.rnd=n_)(hK:∀fn,K fn=⟨fn,ps,assign,body⟩)
  (hg:Y.opd g=X (.clo (.func f) fs cps)) (he:QeZ P f=t_) (hb:look Y.hp b=n_) (hb2:Nat.ble 639 b=f_)
  (H:∀l fn,∃outs r σ2 φ2 O q,rgV P (Y.set b (.lp l (K fn) (snap ts Y.fr n) 0)) f (fs++(.clo (.yield l) [] []::cps)) M N dead ms outs r=X (σ2,φ2)/\φ2/\look σ2.hp b=X (.lp l (K fn) O q)/\q≠1/\
   atJ (AK P C Q (.x .normal) ks (σ2.kill b)) (λc=>AK P C Q (.c c) ks (σ2.kill b)) (jmp q)):AK P C Q (.c (.rangeFunc g ps assign body)) ks Y:=by
 refine AK.rangeFE (ι:=Unit) (Φ:=λ_=>True) b ts M N dead ms K hCn hrnd hK hg he hb hb2 λl fn=>?_;obtain⟨outs,r,σ2,φ2,O,q,e,hφ2,hq,hq1,hk⟩:=H l fn;have e':=e;unfold rgV at e;replace e:=XV e;obtain⟨_,e⟩:=e;split at e
 ·rename_i us hus;split at e
  ·rename_i hsC hC;split at e
   ·cases e;exact⟨λ_=>outs,λ_=>r,λ_=>_,us,hsC,hus,hC,hφ2.mono (λv hs h=>⟨(),trivial,h⟩),λ_=>⟨_,O,q,e',hq,hq1,λ_=>hk⟩⟩
   cases e
  cases e
 cases e
end
def Qsf (n:Nat)(p:Int×Int):O_ (Nat⊕Empty):=X (.inl (n+1))
def QlZ : ∀(l:L_ (Int×Int)) (n:Nat),JP Qsf n l=X (.inl (n+l.length)):=by
 intro l
 induction l with|nil=>intro n;rfl|cons p l h=>intro n;simp only[JP,Qsf,Qh,Sum.elim_inl];rw[h];simp[Nat.add_comm,Nat.add_left_comm]
def Qqz (l:L_ (Int×Int))(n:Nat):Ih Qsf n l=X (.inl (n+l.length)):=Hp.2 ⟨λO h=>by rw[QlZ,QlZ,h.length_eq],QlZ l n⟩
def Qnj {l m:L_ Int}(h:l.Perm m):Jr l=Jr m:=by
 rw[Qhc,Qhc];refine List.Perm.eq_of_pairwise (le:=λx y:Int=>x<=y) ?_ ?_ ?_ ?_
 ·intro a b _ _ O h2;omega
 ·exact(List.pairwise_mergeSort (le:=λx y:Int=>decide (x<=y)) (λa b c O h2=>by simp at *;omega) (λa b=>by simp;omega) l).imp λh=>by simpa using h
 ·exact(List.pairwise_mergeSort (le:=λx y:Int=>decide (x<=y)) (λa b c O h2=>by simp at *;omega) (λa b=>by simp;omega) m).imp λh=>by simpa using h
 exact((List.mergeSort_perm l _).trans h).trans (List.mergeSort_perm m _).symm
def spZ : L_ Int:=(List.range 256).map λc=>if Lib.isSp (UInt8.ofNat c)then 1 else 0
def Qs7 {P:Program}{W:World}(h:Lib.TabIs P W "strings.asciiSpace" .u8 spZ):QaD P (fun k=>k<W.heap.size) W:=fun g hg=>by
 have hc:∀c:Nat,c<256->W.cell? ⟨g,c,n_⟩=X (.int .u8 (if Lib.isSp (UInt8.ofNat c)then 1 else 0)):=λc hc=>by
  rw[h.cell hg c (by simp only[spZ,KO,Qd5];exact hc)];simp[spZ,List.getD,hc]
 have h0:g<W.heap.size:=by
  have:=hc 0 (by decide);apply Nat.lt_of_not_le;intro hle;have e:W.heap[g]? = n_:=Array.getElem?_eq_none hle;simp[World.cell?,e]at this
 exact⟨h0,h0,hc⟩
def Qsg {P:Program}{W:World}{l r:L_ (String×DataW Unit)}{g:Nat}{t e:TypeId}(n:Nat)(hl:l.drop n=("strings.asciiSpace",Lib.tabData .u8 spZ)::r)(hp:(l.all fun x=>x.2.handleName?.isNone)=true)
  (hg:P.globalNamed "strings.asciiSpace" = some g) (hty:(P.globals[g]?).map (·.type)=some t) (ht:P.underlying t=some (.array 256 e)) (he:P.underlying e=some (.int .u8)) (hce:P.cellsOf e=1) (hct:P.cellsOf t=256)
  (h:laidMetH P l W):QaD P (λk=>k<W.heap.size) W:=by
 rw[MakeChecks.laidMetH_plain _ _ _ hp]at h;have key:∀(n:Nat) (l:L_ (String×DataW Unit)),laidMet P l W->laidMet P (l.drop n) W:=by
  intro n
  induction n with
  |zero=>intro l h;exact h|succ n ih=>
   intro l h;cases l with|nil=>exact h|cons x l=>exact ih l h.tail
 have h2:=key n l h;rw[hl]at h2;exact Qs7 (Lib.tabIs_of_head hg hty ht he hce hct h2)
variable {H:Type}{P:Program}
def Sz (P:Program)(t:Nat)(d:DataW H):Prop:=∀n∈d.weights P t,n<=reachBytes
def Sz.all {ts:L_ TypeId}{O:L_ (DataW H)}(h:(DataW.weightsEach P ts O).all (·<=reachBytes)=t_){j:Nat}{t:Nat}{d:DataW H}(ht:ts[j]? = X t)(hd:O[j]? = X d):Sz P t d:=λn hn=>by
 have:=XM.1 h n (DataW.weights_mem_each ht hd n hn);simpa using this
def Sz.field {t:Nat}{fs:Array Field}(hu:P.underlying t=X (.struct fs)){O:L_ (DataW H)}(h:Sz P t (.agg O)){j:Nat}{u:Nat}{d:DataW H}(ht:(fs.toList.map (·.type))[j]? = X u)(hd:O[j]? = X d):Sz P u d:=λn hn=>h n (by
 simp only[DataW.weights,hu];exact DataW.weights_mem_each ht hd n hn)
def Qti {e:Nat}{d:DataW H}{n:Nat}(hn:n∈d.weights P e):∀{O:L_ (DataW H)},d∈O->n∈DataW.weightsAll P e O
 |[],h=>by cases h
 |x::O,h=>by
  simp only[DataW.weightsAll,Jy];rcases Yw.1 h with rfl|h
  ·exact .inl hn
  exact .inr (Qti hn h)
def szL {α:Type}{t e:Nat}{ok sz:α->Prop}{l:L_ α}{d:DataW H}(hu:P.underlying t=X (.slice e))(h:wfL (λx d=>ok x/\(Sz P e d->sz x)) l d):AU ok l/\(Sz P t d->l.length*P.bytesOf e<=reachBytes/\∀x∈l,sz x):=by
 obtain⟨h1,⟨rfl,rfl⟩|⟨es,sp,rfl,hl,hw⟩⟩:=h
 ·exact⟨⟨h1,λx h=>by cases h⟩,λ_=>⟨by simp,λx h=>by cases h⟩⟩
 have key:∀x∈l,∃d∈es,ok x/\(Sz P e d->sz x):=λx hx=>by
  obtain⟨i,hi,rfl⟩:=Lr.1 hx;have O:i<es.length:=by omega
  exact⟨es[i],Jc O,hw i _ _ (QI hi) (QI O)⟩
 refine⟨⟨h1,λx hx=>by obtain⟨_,_,h,_⟩:=key x hx;exact h⟩,λhs=>⟨?_,λx hx=>?_⟩⟩
 ·have:=hs ((es.length+sp.length)*P.bytesOf e) (by simp only[DataW.weights,hu];exact Yd);rw[<-hl];exact Yx (Ys _ (Nat.le_add_right _ _)) this
 obtain⟨d,hd,_,h⟩:=key x hx;refine h λn hn=>hs n ?_;simp only[DataW.weights,hu];exact Yq _ (Zj _ (Qti hn hd))
def Qsh {α:Type}{t e b:Nat}{ok:α->Prop}{l:L_ α}{d:DataW H}(hu:P.underlying t=X (.slice e))(hb:P.bytesOf e=b)(h:wfL (λx _=>ok x) l d):AU ok l/\(Sz P t d->l.length*b<=reachBytes):=by
 subst hb;have:=szL (P:=P) (t:=t) (e:=e) (sz:=λ_=>True) hu (show wfL (λx d=>ok x/\(Sz P e d->True)) l d from⟨h.1,h.2.imp id λ⟨es,sp,O,h2,h3⟩=>⟨es,sp,O,h2,λi x e a b=>⟨h3 i x e a b,λ_=>trivial⟩⟩⟩);exact⟨this.1,λhs=>(this.2 hs).1⟩
def Qwl {α:Type}{t e b:Nat}{ok sz:α->Prop}{l:L_ α}{d:DataW H}(hu:P.underlying t=X (.slice e))(O:P.bytesOf e=b)(h:wfL (λx d=>ok x/\(Sz P e d->sz x)) l d):AU ok l/\(Sz P t d->l.length*b<=reachBytes/\∀x∈l,sz x):=by
 subst O;exact szL hu h
section
variable {κ α:Type}[DecidableEq κ]
def Qnk {π:Type}{L:L_ (Nat×π)}{h:Array Nat}{y:Nat}:YC L (h.push y)=(YC L h).filter λq=>!(q.1==y):=by
 unfold YC;rw[List.filter_filter];apply List.filter_congr;intro q _;rw[QgM];simp[Array.mem_push];constructor
 ·rintro ⟨O,h2⟩;exact⟨h2,O⟩
 rintro ⟨O,h2⟩;exact⟨h2,O⟩
structure Qhd (L L':List (Nat×(κ×α))) (seen:Array Nat):Prop where
 keys:L'.map (·.2.1)=L.map (·.2.1)
 left:YC L' seen=YC L seen
def Qhd.refl {L:L_ (Nat×(κ×α))}{h:Array Nat}:Qhd L L h:=⟨rfl,rfl⟩
def Qhd.push {L L':L_ (Nat×(κ×α))}{O:Array Nat}(h:Qhd L L' O)(y:Nat):Qhd L L' (O.push y):=⟨h.keys,by rw[Qnk,Qnk,h.left]⟩
def Qhd.nil {L L':L_ (Nat×(κ×α))}{O:Array Nat}(h:Qhd L L' O)(hq:YC L' O=[]):YC L O=[]:=by rw[<-h.left];exact hq
end
section
variable {P:Program}{C:Xs}{Y:St}{o:Oper}{κ α:Type}[DecidableEq κ]
end
def Stp.yieldH {P:Program}{C:Xs}{Y:St}{o:Oper}{hp:Nat->O_ Ob}{d b l:Nat}{K:Ec}{cs:L_ V}{q:Nat}{x:Operand}{ags:Array Operand}{ts:Array TypeId}{M N:L_ (Nat×Nat)}{dead:L_ Nat}{outs hsC hsN:H_}{vs us us2:L_ V}{ms:L_ Mode}{r r':V}
  (h2:∀b u,hp b=X u->look Y.hp b=X u) (ho:o.op=.call { callee:=.value x,args:=ags,argTypes:=ts })
  (hx:Y.opd x=X (.clo (.yield l) [] [])) (hlp:look Y.hp b=X (.lp l K cs q)) (hq:q=0) (ha:Y.opsV ags.toList=X vs) (hps:vs.length=K.ps.size) (hd:o.dst=X d) (hn:B_ d C) (hpg:C.pg P)
  (hu:Qkg cs K.ps.toList vs=us) (O:DA ⟨[],N.map λp=>(p.1,Ob.itr0)⟩ M N dead outs=t_) (g2:UZ (M.map Prod.fst)=t_) (g3:UZ (N.map Prod.fst)=t_)
  (hus:PQ (Dl M) ms us=X us2) (hC:CS (Dl M) hp M=X hsC) (hN:CS (Dl N) (look outs) N=X hsN) (hr:trV (Dl N) r=X r') (hφ:CW P l K us2 hsC (Gives r outs)):Stp P C o Y (Yt.run ⟨dead,hsN,X (d,r')⟩ Y):=by
 have O:=Qni (Y:=Y) O;have g2:=WD.1 g2;have g3:=WD.1 g3;have inj:Ho M=t_/\Ho N=t_:=by
  simp only[DA,QL]at O;exact⟨O.1.1.1,O.1.1.2⟩
 have mM:∀a b,Dl M a=X b->look M b=X a:=λa b h=>JX inj.1 (Bk h) g2;have mN:∀a b,Dl N a=X b->look N b=X a:=λa b h=>JX inj.2 (Bk h) g3;subst hu;have:=Stp.yield ho hx hlp hq ha hps hd hn hpg O g2 (IV mM hus) (Dj mM (Qqs h2 hC)) hφ (Dj mN hN) (Mn mN hr);unfold Yt.run;dsimp only;rw[QbE];exact this
def AK.know {P:Program}{C:Xs}{Q:Exit->St->Prop}{Y:St}{ks:L_ Fr}{pt:Pt}{p:Prop}(h:∀a w,R C Y a w->p)(k:p->AK P C Q pt ks Y):AK P C Q pt ks Y:=
 AK.weakenE (ι:=PLift p) (f:=λ_=>Y) (λa w O=>⟨⟨h a w O⟩,O⟩) λi=>k i.down
def AK.openMapK {P:Program}{C:Xs}{Q:Exit->St->Prop}{Y:St}{ks:L_ Fr}{κ α:Type}[DecidableEq κ]{K:TypeId}{e:κ->V}{val:κ->Value}{f:α->V}{lt:L_ (κ×α)}{b:Nat}{pt:Pt}(hk:Dh P K e val)(hb:look Y.hp b=X (.map (QJ e f lt)))
  (h:∀bm O (L:L_ (Nat×(κ×α))),(L.map (·.1)).Nodup->(L.map (·.2.1)).Nodup->(L.map Prod.snd).Perm lt->AK P C Q pt ks (Y.set b (.mapX bm O (CV e f L) (QJ e f lt)))):AK P C Q pt ks Y:=by
 refine AK.openMap hk hb λbm O L h1 h2=>AK.know (p:=(lt.map Prod.fst).Nodup) (λa w ⟨Z,hr⟩=>?_) λhn=>h bm O L h1 ?_ h2
 ·rcases hr.heap b _ (St.look_set_same _ _ _)with⟨B,hB,_,M,_,_,_,g3,_⟩|⟨_,e'⟩
  ·exact(SE hk.einj).1 g3
  exact e'.elim
 have:=(h2.map Prod.fst).nodup_iff.2 hn;rw[Zi]at this;exact this
section
variable {P:Program}{C:Xs}{Y:St}{o:Oper}{A:Nat->Nat}
def QxE (t e:TypeId)(p:O_ Addr)(w:World)(h:P.underlying t=X (.pointer e)):(Op.equal t (.pointer p) (.pointer n_)).run P w=.ok p.isNone w:=by
 show(Op.equalIn (9999+1) t (.pointer p) (.pointer n_)).run P w=_;rw[Op.equalIn];cases p<;>simp only[Xh,run_underlying h,Xp,Xq]<;>rfl
def RR.grow {Z:Nat->O_ QV}{a:Act}{w:World}(hr:RR C Z Y a w){b z T:Nat}{rs:L_ (L_ V)}{cs:L_ V}{ys:Array Value}(hb:look Y.hp b=X (.tbl A z rs))(hlt:b<639)(hz:cs.length=z)(h1:∀v∈cs,v.one=t_)
  (hs:ys.size=z) (hc:∀(j:Nat) x v,ys[j]? = X x->cs[j]? = X v->XJ (Xc C Z w) w x v):
  ∃φ',RR C φ' ((Y.kill b).set b (.tbl (λi=>if i=rs.length then w.heap.size else A i) z (rs++[cs]))) a (w.alloc (.cells ys T)):=by
 generalize hA':(λi=>if i=rs.length then w.heap.size else A i)=A';have hnew:A' rs.length=w.heap.size:=by rw[<-hA'];simp
 have hold:∀i,i<rs.length->A' i=A i:=λi hi=>by rw[<-hA'];simp[Nat.ne_of_lt hi]
 have hrng:(List.range (rs++[cs]).length).map A'=(List.range rs.length).map A++[w.heap.size]:=by
  rw[YR,DU,SB,List.range_succ,List.map_append,GC,List.map_nil,hnew];congr 1;exact List.map_congr_left λi hi=>hold i (Ea.1 hi)
 have hok:(∀r∈rs,Uw z r)->∀r∈rs++[cs],Uw z r:=λh r hr=>by
  rcases Jy.1 hr with hr|hr
  ·exact h r hr
  rw[Hk.1 hr];exact⟨hz,h1⟩
 have row:∀{I:Nat->Prop},(∀k,Xc C Z w k->I k)->∃cs2 E,(w.alloc (.cells ys T)).heap[w.heap.size]? = X (.cells cs2 E (0,0))/\cs2.size=z/\∀(j:Nat) v,cs[j]? = X v->∃x,cs2[j]? = X x/\XJ I (w.alloc (.cells ys T)) x v:=λ{I} hI=>by
  refine⟨ys,T,heap_alloc_new w _,hs,λj v hv=>?_⟩;have hj:j<ys.size:=by rw[hs,<-hz];exact(QX.1 hv).1
  exact⟨ys[j],GR hj,(hc j _ v (GR hj) hv).mono λk O=>⟨hI k O,Below.heap_alloc w _ k O.1⟩⟩
 rcases hr.heap b _ hb with⟨B,hB,hrep⟩|⟨hn,h⟩
 ·let B':QV:=⟨B.b,B.cap,B.z,B.more++[w.heap.size],B.off⟩;have hhas:∀k,B'.has k↔B.has k\/k=w.heap.size:=λk=>by simp[QV.has,B',or_assoc]
  have hI0:∀k,Xc C Z w k->Xc C (ext Z b B') (w.alloc (.cells ys T)) k:=λk O=>⟨by have:=O.1;simp;omega,O.2.1,λo B1 h1=>by
   by_cases e:o=b
   ·subst e;rw[Xb]at h1;cases h1;rw[hhas];rintro (h2|h2)
    ·exact O.2.2 _ B hB h2
    have:=O.1;omega
   rw[QP _ e]at h1;exact O.2.2 o B1 h1⟩
  have:=hr.change hB (B':=B') ⟨rfl,rfl,rfl,rfl⟩ (λh=>absurd hlt (by omega)) (ob:=.tbl A' z (rs++[cs])) (w':=w.alloc (.cells ys T)) rfl rfl rfl (by simp) (λk O _=>Below.heap_alloc w _ k O)
   (λk O=>by
    rcases(hhas k).1 O with h2|h2
    ·exact⟨by have:=(hr.lt b B k hB h2).1;simp;omega,.inl h2⟩
    ·exact⟨by simp;omega,.inr (by omega)⟩) (by
    refine⟨by rw[hrng,<-hrep.1];rfl,?_,hok hrep.2.2.1,λi q hi=>?_⟩
    ·show((B.b::B.more)++[w.heap.size]).Nodup;rw[List.nodup_append];refine⟨hrep.2.1,by simp,λx hx y hy=>?_⟩;rw[Hk.1 hy];have:=(hr.lt b B x hB (by unfold QV.has;exact Yw.1 hx)).1;omega
    rcases DX i rs.length with hlt'|hge
    ·rw[Yp hlt']at hi;obtain⟨cs2,E,g1,g2,g3⟩:=hrep.2.2.2 i q hi;have hAi:A i<w.heap.size:=(hr.lt b B _ hB ((hrep.has _).2 ⟨i,hlt',rfl⟩)).1;exact⟨cs2,E,by rw[hold i hlt',Below.heap_alloc w _ _ hAi];exact g1,g2,λj u hu=>let ⟨x',hx',hD⟩:=g3 j u hu;⟨x',hx',hD.mono λk O=>⟨hI0 k O,Below.heap_alloc w _ k O.1⟩⟩⟩
    have hi0:i=rs.length:=by have:=(QX.1 hi).1;simp at this;omega
    subst hi0;rw[YJ (YK _),Nat.sub_self]at hi;simp at hi;subst hi;rw[hnew];exact row hI0)
  have h2:=this.reset b (.tbl A' z (rs++[cs])) ⟨_,St.look_set_same _ _ _⟩ (.inl ⟨B',Xb _ _ _,this.block (Xb _ _ _) (St.look_set_same _ _ _)⟩);rw[St.set_kill]at h2;exact⟨_,h2⟩
 replace h:rs=[]:=h;subst h;have O:=hr.kill b;have hnone:look (Y.kill b).hp b=n_:=by
  cases h:look (Y.kill b).hp b with|none=>rfl|some ob=>exact absurd rfl (Ju _ _ _ h).1
 have hdel:Ga Z b=Z:=by
  funext k;by_cases e:k=b
  ·subst e;rw[Vp,hn]
  rw[Wj e]
 have hI1:=O.imm_alloc b 0 0 (.cells ys T) (Vp _ _);refine⟨_,O.alloc (cap:=0) (z:=0) hnone hlt (ob:=.tbl A' z ([]++[cs])) (obj:=.cells ys T) ⟨?_,by simp,hok (by simp),λi q hi=>?_⟩⟩
 ·rw[hrng];rfl
 have hi0:i=0:=by have:=(QX.1 hi).1;simp at this;omega
 subst hi0;simp at hi;subst hi;have:A' 0=w.heap.size:=hnew;rw[this];exact row λk hk'=>(hI1 k (by rw[hdel];exact hk')).1
end
end Go.Vm
namespace Go.Vm
open Go Go.RowKit Go.Shelf Go.Lib Go.Proofs
open Option renaming some→X,none→n_
open Bool renaming true→t_
def Bn {P:Program}(w:World)(dT sT ty h:TypeId)(g o dLen dCap:Nat)(a:Addr)(sLen sCap z m:Nat)(cur:Array Value)(t:TypeId)(O:L_ Value)
  (hu:P.underlying dT=X (.slice h)) (hs:(P.info? h).map (·.size)=X z)
  (hg:w.heap[g]? = X (.cells cur t (0,0))) (hm:Nat.min sLen dLen=m) (hn:O.length=m*z)
  (hsrc:∀(j:Nat) v,O[j]? = X v->w.cell? (a.add j)=X v) (hfit:o+O.length<=cur.size) (h1:∀v∈O,v.oneCell'=t_):
  (Builtin.copy_ #[dT,sT] ty #[.slice (X ⟨g,o,n_⟩) dLen dCap,.slice (X a) sLen sCap]).run P w =
   .ok (goInt m) (w.setRow g (cur.toList.take o++O++cur.toList.drop (o+O.length)).toArray):=by
 have hl:=run_loadCells_list (P:=P) w a O hsrc;have hst:=run_storeCells_at P g o t O 0 cur w hg (by simpa using hfit) h1;cases hq:P.info? h with
 |none=>simp[hq]at hs|some i=>
  have hi:i.size=z:=by simpa[hq] using hs
  simp[Builtin.copy_,run_underlying hu,Builtin.lenOf,Builtin.firstCells,sizeOf,typeInfo,hq,hi,hm,<-hn,hl,hst]
noncomputable def Qyp (ρ:Ren)(nm:String):Func:={ Body2.n22 ρ with name:=nm }
noncomputable def ovF (ρ:Ren)(nm:String):Func:={ Body2.n29 ρ with name:=nm }
def Qhe (ρ:Ren)(nm:String):(Qyp ρ nm).ntmps=95:=rfl
structure QiO (P:Program) (ρ:Ren) (n1 n2:String) (E z by_:Nat) (zv:Value):Prop where
 mixed:P.follows .mixedOrders=t_
 f22:P.funcs[ρ.f 22]? = X (Qyp ρ n1)
 f29:P.funcs[ρ.f 29]? = X (ovF ρ n2)
 nm:(n2 == "runtime.NumGoroutine")=false
 nx:Extern.findNext (ovF ρ n2)=n_
 fd:Extern.find (ovF ρ n2)=X (Extern.SlicesOverlaps.overlaps #[(ρ.t 24),(ρ.t 24)] #[(ρ.t 4)])
 t0:P.underlying (ρ.t 0)=X (TypeDesc.tuple #[])
 t3:P.underlying (ρ.t 3)=X (TypeDesc.int IntKind.i64)
 t4:P.underlying (ρ.t 4)=X (TypeDesc.bool)
 t24:P.underlying (ρ.t 24)=X (TypeDesc.slice E)
 zE:∀w,(Go.sizeOf E).run P w=.ok z w
 iE:(P.info? E).map (λi=>(i.zero,i.size,i.bytes))=X (X zv,z,by_)
 zc:zv.cells.size=z
 z0:0<z
 small:by_<=32768
variable {P:Program}{ρ:Ren}{n1 n2:String}{E z by_:Nat}{zv:Value}
def Mt (l:L_ Value)(o:Nat)(vs:L_ Value)(h:o+vs.length<=l.length)(k:Nat):
  (l.take o++vs++l.drop (o+vs.length))[k]? = if k<o then l[k]? else if k<o+vs.length then vs[k-o]? else l[k]? := by
 by_cases O:k<o
 ·rw[if_pos O,WC,Yp (by simp;omega),YQ,if_pos O]
 rw[if_neg O];by_cases h2:k<o+vs.length
 ·rw[if_pos h2,Yp (by simp;omega),YJ (by simp;omega)];congr 1;simp;omega
 rw[if_neg h2,YJ (by simp;omega),WP];congr 1;simp;omega
def Uc (l:L_ Value)(o:Nat)(vs:L_ Value)(h:o+vs.length<=l.length):(l.take o++vs++l.drop (o+vs.length)).length=l.length:=by simp;omega
set_option maxHeartbeats 4000000 in
set_option maxRecDepth 635 in
def QuW (L:QiO P ρ n1 n2 E z by_ zv)(b off n c i vb voff vc:Nat)(cur vcur:Array Value)(Eb Ev:TypeId)(cs vs:L_ Value)(w:World)(hi:i<n)(hroom:n+1<=c)(hn32:n+1<=4294967296)(hg:w.heap[b]? = X (.cells cur Eb (0,0)))
  (hfit:off+c*z<=cur.size) (hcl:cs.length=n*z) (hcs:∀(j:Nat) v,cs[j]? = X v->cur[off+j]? = X v) (h1c:∀v∈cs,v.oneCell'=t_) (hvl:vs.length=z) (hvg:w.heap[vb]? = X (.cells vcur Ev (0,0)))
  (hvs:∀(j:Nat) v,vs[j]? = X v->vcur[voff+j]? = X v) (hvb:vb≠b) (h1v:∀v∈vs,v.oneCell'=t_):
  Calls P (ρ.f 22) #[.slice (X ⟨b,off,n_⟩) n c,.int .i64 i,.slice (X ⟨vb,voff,n_⟩) 1 vc] w λe w'=>
   e=.returned (.slice (X ⟨b,off,n_⟩) (n+1) c)/\w'.os=w.os/\w'.tape=w.tape/\w'.output=w.output/\w'.heap.size=w.heap.size/\(∀k,k≠b->w'.heap[k]? = w.heap[k]?)/\
   ∃O:Array Value,w'.heap[b]? = X (.cells O Eb (0,0))/\O.size=cur.size/\∀(j:Nat) v,(cs.take (i*z)++vs++cs.drop (i*z))[j]? = X v->O[off+j]? = X v:=by
 have t0:=L.t0;have t3:=L.t3;have t4:=L.t4;have t24:=L.t24;have u0:=run_underlying L.t0;have u3:=run_underlying L.t3;have u4:=run_underlying L.t4;have u24:=run_underlying L.t24;have zE:=L.zE;have mixed:=L.mixed;obtain⟨i0,hi0,hz0,hzs,hzb⟩:=info_parts L.iE;have hsz:(P.info? E).map (·.size)=X z:=by rw[hi0];simp[hzs]
 have hzp:=L.z0;have hnz:n*z+z<=c*z:=by have:=Ys z hroom;rwa[YS,Ia]at this
 have hin:(i+1)*z<=n*z:=Ys z hi;have hi1:(i+1)*z=i*z+z:=by rw[YS,Ia]
 have hov:∀lb cb,(callFunc (ρ.f 29) #[.slice (X ⟨vb,voff,n_⟩) 1 vc,.slice (X ⟨b,off+(i*z+z),n_⟩) lb cb]).run P w=.ok (.value (.bool false)) w:=λlb cb=>by
  rw[run_callFunc_extern L.f29 L.nm rfl L.nx L.fd,
   Lib.run_overlaps_apart w (ρ.t 24) (ρ.t 4) E L.t24 z L.zE ⟨vb,voff,n_⟩ ⟨b,off+(i*z+z),n_⟩ 1 vc lb cb hvb Ev Eb vcur.size cur.size (by simp[World.shape?,hvg]) (by simp[World.shape?,hg]) (by omega) (by simp[World.frozen?,hvg]) (by simp[World.frozen?,hvg])]
  rfl
 have hz1:¬((1:Int)=0):=by omega
 have hz2:¬((i:Int)=(n:Int)):=by omega
 have hdl:(cs.drop (i*z)).length=(n-i)*z:=by rw[Hh,hcl,Nat.sub_mul]
 have hw1:IntKind.i64.wrap ((i:Int)+1)=(i:Int)+1:=by rw[IntKind.wrap_i64];omega
 have hw2:IntKind.i64.wrap ((n:Int)+1)=(n:Int)+1:=by rw[IntKind.wrap_i64];omega
 have hb0:(0:Int)<=(i:Int):=by omega
 have hb1:(0:Int)<=(i:Int)+1:=by omega
 have hb5:(0:Int)<=(n:Int)+1:=by omega
 have hin':i<=n:=by omega
 have htn:((i:Int)+1).toNat=i+1:=by omega
 have htn2:((n:Int)+1).toNat=n+1:=by omega
 have hb2:¬(c=i+1):=by omega
 have hb3:(i:Int)<=(n:Int)+1:=by omega
 have hb4:¬(c=i):=by omega
 have hb6:(i:Int)+1<=(n:Int)+1:=by omega
 have hb7:¬((c:Int)<(n:Int)+1):=by omega
 have hb8:(n:Int)+1<=(c:Int):=by omega
 have hb9:(i:Int)<=(n:Int):=by omega
 obtain⟨h,hcur1⟩:∃h:Array Value,h=(cur.toList.take (off+(i*z+z))++cs.drop (i*z)++cur.toList.drop (off+(i*z+z)+(cs.drop (i*z)).length)).toArray:=⟨_,rfl⟩;have hni:n*z=i*z+(n-i)*z:=by rw[<-YS];congr 1;omega
 have hl1:off+(i*z+z)+(cs.drop (i*z)).length<=cur.toList.length:=by rw[hdl];simp;omega
 have hs1:h.size=cur.size:=by rw[hcur1];simpa using Uc cur.toList _ _ hl1
 have hcp1:∀ty dc sc,(Builtin.copy_ #[(ρ.t 24),(ρ.t 24)] ty #[.slice (X ⟨b,off+(i*z+z),n_⟩) (n-i) dc,.slice (X ⟨b,off+i*z,n_⟩) (n+1-i) sc]).run P w.drew=.ok (goInt (n-i:Nat)) (w.drew.setRow b h):=λty dc sc=>by
  rw[hcur1];exact Bn w.drew _ _ ty E b (off+(i*z+z)) (n-i) dc ⟨b,off+i*z,n_⟩ (n+1-i) sc z (n-i) cur Eb (cs.drop (i*z)) L.t24 hsz hg (by simp only[Nat.min_def];split<;>omega) hdl
   (λj v hj=>by
    rw[WP]at hj;have:=hcs _ v hj;rw[Addr.add_lit];show(match w.heap[b]? with|some (.cells c _ _)=>c[off+i*z+j]? | _=>n_)=X v
    simp only[hg,Ns,this]) (by simpa using hl1) (λv hv=>h1c v (Nr hv))
 obtain⟨cur2,hcur2⟩:∃cur2:Array Value,cur2=(h.toList.take (off+i*z)++vs++h.toList.drop (off+i*z+vs.length)).toArray:=⟨_,rfl⟩;have hl2:off+i*z+vs.length<=h.toList.length:=by rw[hvl];simp[hs1];omega
 have hs2:cur2.size=cur.size:=by rw[hcur2,<-hs1];simpa using Uc h.toList _ _ hl2
 have hcp2:∀(W:World),W.heap=(w.setRow b h).heap->∀ty dc,(Builtin.copy_ #[(ρ.t 24),(ρ.t 24)] ty #[.slice (X ⟨b,off+i*z,n_⟩) (n+1-i) dc,.slice (X ⟨vb,voff,n_⟩) 1 vc]).run P W=.ok (goInt (1:Nat)) (W.setRow b cur2):=λW hW ty dc=>by
  rw[hcur2];exact Bn W _ _ ty E b (off+i*z) (n+1-i) dc ⟨vb,voff,n_⟩ 1 vc z 1 h Eb vs L.t24 hsz (by rw[hW];exact setRow_heap w b cur _ Eb _ hg) (by simp only[Nat.min_def];split<;>omega) (by rw[hvl,Ia])
   (λj v hj=>by
    have:=hvs _ v hj;rw[Addr.add_lit];have hh:W.heap[vb]? = X (.cells vcur Ev (0,0)):=by rw[hW,setRow_other w b vb _ hvb];exact hvg
    show(match W.heap[vb]? with|some (.cells c _ _)=>c[voff+j]? | _=>n_)=X v
    simp only[hh,this]) (by simpa using hl2) h1v
 have hfin:∀(j:Nat) v,(cs.take (i*z)++vs++cs.drop (i*z))[j]? = X v->cur2[off+j]? = X v:=λj v hj=>by
  have e1:∀k:Nat,h.toList[k]? = if k<off+(i*z+z)then cur.toList[k]? else if k<off+(i*z+z)+(cs.drop (i*z)).length then(cs.drop (i*z))[k-(off+(i*z+z))]? else cur.toList[k]? := λk=>by rw[hcur1,List.toList_toArray];exact Mt _ _ _ hl1 k
  rw[hcur2,Uu,Mt _ _ _ hl2];have htl:(cs.take (i*z)).length=i*z:=by rw[Kd,hcl];omega
  by_cases h1:j<i*z
  ·rw[WC,Yp (by omega),YQ,if_pos h1]at hj;rw[if_pos (by omega),e1,if_pos (by omega)];simpa using hcs j v hj
  by_cases h2:j<i*z+z
  ·rw[Yp (by rw[YR];omega),YJ (by omega)]at hj;rw[if_neg (by omega),if_pos (by omega),<-hj];congr 1;omega
  rw[YJ (by rw[YR];omega)]at hj;have hjl:=(QX.1 hj).1;rw[hdl,YR]at hjl;rw[if_neg (by omega),if_neg (by omega),e1,if_neg (by omega),if_pos (by rw[hdl];omega),<-hj];congr 1;rw[YR];omega
 have hlast:∀W:World,W.heap=((w.setRow b h).setRow b cur2).heap->W.heap.size=w.heap.size/\(∀k,k≠b->W.heap[k]? = w.heap[k]?)/\
   ∃O:Array Value,W.heap[b]? = X (.cells O Eb (0,0))/\O.size=cur.size/\∀(j:Nat) v,(cs.take (i*z)++vs++cs.drop (i*z))[j]? = X v->O[off+j]? = X v:=λW hW=>by
  refine⟨by rw[hW];simp,λk hk=>by rw[hW,setRow_other _ b k _ hk,setRow_other _ b k _ hk],cur2,?_,hs2,hfin⟩;rw[hW];exact setRow_heap _ b h _ Eb _ (setRow_heap w b cur _ Eb _ hg)
 clear hfin hs2 hl2 hcur2 hs1 hl1 hcur1
 go_enter L.f22,Qhe ρ n1
 go_wp2_with (simp only[hov])
 go_region_law_o (refine step_copy_runI rfl _ _ (ρ.t 24) (ρ.t 24) rfl _ _ (by simp[Act.eval,Act.put]) (by simp[Act.eval,Act.put]) (hcp1 _ _ _) ?_)
 go_wp2_with (refine wpList_copy_runI _ rfl _ _ (ρ.t 24) (ρ.t 24) rfl _ _ rfl rfl (hcp2 _ (by rfl) _ _) ?_)
 go_ret
 exact⟨rfl,rfl,rfl,rfl,hlast _ rfl⟩
set_option maxHeartbeats 4000000 in
set_option maxRecDepth 635 in
def Qwm (L:QiO P ρ n1 n2 E z by_ zv)(b off n c i vb voff vc:Nat)(cur vcur:Array Value)(Eb Ev:TypeId)(cs vs:L_ Value)(w:World)(hi:i<n)(hnc:n<=c)(hroom:c<n+1)(hn32:n+1<=4294967296)(hg:w.heap[b]? = X (.cells cur Eb (0,0)))
  (hcl:cs.length=n*z) (hcs:∀(j:Nat) v,cs[j]? = X v->cur[off+j]? = X v) (h1c:∀v∈cs,v.oneCell'=t_) (hvl:vs.length=z) (hvg:w.heap[vb]? = X (.cells vcur Ev (0,0)))
  (hvs:∀(j:Nat) v,vs[j]? = X v->vcur[voff+j]? = X v) (h1v:∀v∈vs,v.oneCell'=t_):
  Calls P (ρ.f 22) #[.slice (X ⟨b,off,n_⟩) n c,.int .i64 i,.slice (X ⟨vb,voff,n_⟩) 1 vc] w λe w'=>
   ∃G,n+1<=G/\e=.returned (.slice (X ⟨w.heap.size,0,n_⟩) (n+1) G)/\w'.os=w.os/\w'.tape=w.tape/\w'.output=w.output/\w'.heap.size=w.heap.size+1/\(∀k,k<w.heap.size->w'.heap[k]? = w.heap[k]?)/\
   ∃cur':Array Value,w'.heap[w.heap.size]? = X (.cells cur' E (0,0))/\cur'.size=G*z/\∀(j:Nat) v,(cs.take (i*z)++vs++cs.drop (i*z))[j]? = X v->cur'[j]? = X v:=by
 have t0:=L.t0;have t3:=L.t3;have t4:=L.t4;have t24:=L.t24;have u0:=run_underlying L.t0;have u3:=run_underlying L.t3;have u4:=run_underlying L.t4;have u24:=run_underlying L.t24;have zE:=L.zE;have mixed:=L.mixed;obtain⟨i0,hi0,hz0,hzs,hzb⟩:=info_parts L.iE;have hsz:(P.info? E).map (·.size)=X z:=by rw[hi0];simp[hzs]
 have hzp:=L.z0;have hsm:=L.small;have hin:(i+1)*z<=n*z:=Ys z hi;have hi1:(i+1)*z=i*z+z:=by rw[YS,Ia]
 have hbw:b<w.heap.size:=(Em.1 hg).1;have hvw:vb<w.heap.size:=(Em.1 hvg).1;have hkk:(n:Int)+1-(i:Int)=((n+1-i:Nat):Int):=by omega
 have hik:i+(n+1-i)=n+1:=by omega
 have hbig:(n+1)*by_<=140737488355328:=by
  have:(n+1)*by_<=4294967296*32768:=Nat.mul_le_mul hn32 hsm;omega
 have htl:(cs.take (i*z)).length=i*z:=by rw[Kd,hcl];omega
 have hold:(Builtin.firstCells i0.size i (.slice (X ⟨b,off,n_⟩) i c)).run P w.drew=.ok (cs.take (i*z)).toArray w.drew:=by
  rw[hzs];exact run_firstCells_some w.drew z i ⟨b,off,n_⟩ i c (cs.take (i*z)) htl (λj v hj=>by
   rw[Addr.add_lit];rw[YQ]at hj;split at hj
   ·show(match w.heap[b]? with|some (.cells c _ _)=>c[off+j]? | _=>n_)=X v
    simp only[hg,hcs j v hj]
   cases hj)
 have hrz:∀ty,(Builtin.append_ #[(ρ.t 24),(ρ.t 3)] ty #[.slice (X ⟨b,off,n_⟩) i c,.int .i64 ((n:Int)+1-(i:Int))]).run P w =
   .ok (.slice (X ⟨w.heap.size,0,n_⟩) (n+1) (grownCap w (n+1) c E)) (w.drew.alloc (.cells ((cs.take (i*z)).toArray++Builtin.zeroCells zv.cells (n+1-i)++Builtin.zeroCells zv.cells (grownCap w (n+1) c E-(n+1))) E)):=λty=>by
  have h:=Lib.run_append_grow_zeros w (ρ.t 24) (ρ.t 3) ty E i0 _ .i64 .i64 L.t24 L.t3 hi0 hz0 (X ⟨b,off,n_⟩) i c (cs.take (i*z)) hold (n+1-i) (by omega) (by rw[hzs];omega) (by omega) (by omega)
   (by rw[hzb];have:(n+1-i)*by_<=(n+1)*by_:=Ys _ (by omega);omega) (by rw[hzb,hik];exact growslice_fits hroom hbig)
  rw[hik]at h;rw[hkk];exact h
 have hGn:n+1<=grownCap w (n+1) c E:=grownCap_ge w _ _ _;obtain⟨G,hG⟩:∃G,G=grownCap w (n+1) c E:=⟨_,rfl⟩;rw[<-hG]at hrz hGn;obtain⟨ROW,hROW⟩:∃ROW:Array Value,ROW=(cs.take (i*z)).toArray++Builtin.zeroCells zv.cells (n+1-i)++Builtin.zeroCells zv.cells (G-(n+1)):=⟨_,rfl⟩;rw[<-hROW]at hrz;have hRl:ROW.size=G*z:=by
  rw[hROW];simp only[Array.size_append,Zl,htl,size_zeroCells,L.zc,<-YS];congr 1;omega
 have hRold:∀(j:Nat) v,(cs.take (i*z))[j]? = X v->ROW[j]? = X v:=λj v hj=>by
  have hjl:=(QX.1 hj).1;rw[hROW,Qo2 (by simp;omega),Qo2 (by simpa using hjl)];simpa using hj
 have hGz:(n+1)*z<=G*z:=Ys z hGn;have hn1:(n+1)*z=n*z+z:=by rw[YS,Ia]
 have hdl:(cs.drop (i*z)).length=(n-i)*z:=by rw[Hh,hcl,Nat.sub_mul]
 have hni:n*z=i*z+(n-i)*z:=by rw[<-YS];congr 1;omega
 obtain⟨O,hrow1⟩:∃O:Array Value,O=(ROW.toList.take (i*z)++vs++ROW.toList.drop (i*z+vs.length)).toArray:=⟨_,rfl⟩;have hl1:i*z+vs.length<=ROW.toList.length:=by rw[hvl];simp[hRl];omega
 have hs1:O.size=G*z:=by rw[hrow1,<-hRl];simpa using Uc ROW.toList _ _ hl1
 obtain⟨row2,hrow2⟩:∃row2:Array Value,row2=(O.toList.take (i*z+z)++cs.drop (i*z)++O.toList.drop (i*z+z+(cs.drop (i*z)).length)).toArray:=⟨_,rfl⟩;have hl2:i*z+z+(cs.drop (i*z)).length<=O.toList.length:=by rw[hdl];simp[hs1];omega
 have hs2:row2.size=G*z:=by rw[hrow2,<-hs1];simpa using Uc O.toList _ _ hl2
 obtain⟨W1,hW1⟩:∃W1,W1=w.drew.alloc (.cells ROW E):=⟨_,rfl⟩;have hN:W1.heap[w.heap.size]? = X (.cells ROW E (0,0)):=by rw[hW1];exact heap_alloc_new w.drew _
 have hO:∀k,k<w.heap.size->W1.heap[k]? = w.heap[k]? := λk hk=>by rw[hW1];exact Below.heap_alloc w.drew _ k hk
 have hWs:W1.heap.size=w.heap.size+1:=by rw[hW1];simp
 rw[<-hW1]at hrz;have hcpA:∀(W:World),W.heap=W1.heap->∀ty dc,(Builtin.copy_ #[(ρ.t 24),(ρ.t 24)] ty #[.slice (X ⟨w.heap.size,i*z,n_⟩) (n+1-i) dc,.slice (X ⟨vb,voff,n_⟩) 1 vc]).run P W=.ok (goInt (1:Nat)) (W.setRow w.heap.size O):=λW hW ty dc=>by
  rw[hrow1];exact Bn W _ _ ty E w.heap.size (i*z) (n+1-i) dc ⟨vb,voff,n_⟩ 1 vc z 1 ROW E vs L.t24 hsz (by rw[hW];exact hN) (by simp only[Nat.min_def];split<;>omega) (by rw[hvl,Ia])
   (λj v hj=>by
    have:=hvs _ v hj;rw[Addr.add_lit];have hh:W.heap[vb]? = X (.cells vcur Ev (0,0)):=by rw[hW,hO _ hvw];exact hvg
    show(match W.heap[vb]? with|some (.cells c _ _)=>c[voff+j]? | _=>n_)=X v
    simp only[hh,this]) (by simpa using hl1) h1v
 have hcpB:∀(W:World),W.heap=(W1.setRow w.heap.size O).heap->∀ty dc sc,(Builtin.copy_ #[(ρ.t 24),(ρ.t 24)] ty #[.slice (X ⟨w.heap.size,i*z+z,n_⟩) (n-i) dc,.slice (X ⟨b,off+i*z,n_⟩) (n-i) sc]).run P W=.ok (goInt (n-i:Nat)) (W.setRow w.heap.size row2):=λW hW ty dc sc=>by
  rw[hrow2];exact Bn W _ _ ty E w.heap.size (i*z+z) (n-i) dc ⟨b,off+i*z,n_⟩ (n-i) sc z (n-i) O E (cs.drop (i*z)) L.t24 hsz (by rw[hW];exact setRow_heap W1 _ ROW _ E _ hN) (Nat.min_self _) hdl
   (λj v hj=>by
    rw[WP]at hj;have:=hcs _ v hj;rw[Addr.add_lit];have hh:W.heap[b]? = X (.cells cur Eb (0,0)):=by rw[hW,setRow_other W1 _ b _ (by omega),hO _ hbw];exact hg
    show(match W.heap[b]? with|some (.cells c _ _)=>c[off+i*z+j]? | _=>n_)=X v
    simp only[hh,Ns,this]) (by simpa using hl2) (λv hv=>h1c v (Nr hv))
 have hfin:∀(j:Nat) v,(cs.take (i*z)++vs++cs.drop (i*z))[j]? = X v->row2[j]? = X v:=λj v hj=>by
  have e1:∀k:Nat,O.toList[k]? = if k<i*z then ROW.toList[k]? else if k<i*z+vs.length then vs[k-i*z]? else ROW.toList[k]? := λk=>by rw[hrow1,List.toList_toArray];exact Mt _ _ _ hl1 k
  rw[hrow2,Uu,Mt _ _ _ hl2];by_cases h1:j<i*z
  ·rw[WC,Yp (by omega)]at hj;rw[if_pos (by omega),e1,if_pos (by omega)];simpa using hRold j v hj
  by_cases h2:j<i*z+z
  ·rw[Yp (by rw[YR];omega),YJ (by omega)]at hj;rw[if_pos (by omega),e1,if_neg h1,if_pos (by omega),<-hj];congr 1;omega
  rw[YJ (by rw[YR];omega)]at hj;have hjl:=(QX.1 hj).1;rw[YR]at hjl;rw[if_neg (by omega),if_pos (by omega),<-hj];congr 1;rw[YR];omega
 have hlast:∀W:World,W.heap=((W1.setRow w.heap.size O).setRow w.heap.size row2).heap->W.heap.size=w.heap.size+1/\(∀k,k<w.heap.size->W.heap[k]? = w.heap[k]?)/\
   ∃cur':Array Value,W.heap[w.heap.size]? = X (.cells cur' E (0,0))/\cur'.size=G*z/\∀(j:Nat) v,(cs.take (i*z)++vs++cs.drop (i*z))[j]? = X v->cur'[j]? = X v:=λW hW=>by
  refine⟨by rw[hW];simp[hWs],λk hk=>by rw[hW,setRow_other _ _ k _ (by omega),setRow_other _ _ k _ (by omega),hO k hk],row2,?_,hs2,hfin⟩;rw[hW];exact setRow_heap _ _ O _ E _ (setRow_heap W1 _ ROW _ E _ hN)
 have hWo:W1.os=w.os/\W1.tape=w.tape/\W1.output=w.output:=by rw[hW1];exact⟨rfl,rfl,rfl⟩
 have hz1:¬((1:Int)=0):=by omega
 have hz2:¬((i:Int)=(n:Int)):=by omega
 have hz3:(c:Int)<(n:Int)+1:=by omega
 have hw1:IntKind.i64.wrap ((i:Int)+1)=(i:Int)+1:=by rw[IntKind.wrap_i64];omega
 have hw2:IntKind.i64.wrap ((n:Int)+1)=(n:Int)+1:=by rw[IntKind.wrap_i64];omega
 have hw3:IntKind.i64.wrap ((n:Int)+1-(i:Int))=(n:Int)+1-(i:Int):=by rw[IntKind.wrap_i64];omega
 have hb0:(0:Int)<=(i:Int):=by omega
 have hb1:(0:Int)<=(i:Int)+1:=by omega
 have htn:((i:Int)+1).toNat=i+1:=by omega
 have hb3:(i:Int)<=(n:Int):=by omega
 have hb4:(i:Int)<=(c:Int):=by omega
 have hb5:(i:Int)<=(n:Int)+1:=by omega
 have hb6:(i:Int)+1<=(n:Int)+1:=by omega
 have hGi:¬(G=i):=by omega
 have hGim:¬(G=i+1):=by omega
 have hci:¬(c=i):=by omega
 clear hfin hs2 hl2 hrow2 hs1 hl1 hrow1 hO hN hWs hRold hRl hROW hG hold hkk hik hW1
 go_enter L.f22,Qhe ρ n1
 go_wp2_with (first
  |(at_builtin;refine Lib.wpList_append_run _ rfl _ _ _ _ rfl _ _ rfl rfl _ _ (hrz _) ?_)
  |(refine wpList_copy_runI _ rfl _ _ (ρ.t 24) (ρ.t 24) rfl _ _ rfl rfl (hcpA _ (by rfl) _ _) ?_))
 go_region_law_o (refine step_copy_runI rfl _ _ (ρ.t 24) (ρ.t 24) rfl (.slice (X ⟨w.heap.size,i*z+z,n_⟩) (n-i) (G-(i+1))) (.slice (X ⟨b,off+i*z,n_⟩) (n-i) (c-i)) (by simp[Act.eval,Act.put]) (by simp[Act.eval,Act.put]) (hcpB _ (by rfl) _ _ _) ?_)
 go_wp2
 go_ret
 exact⟨G,hGn,rfl,hWo.1,hWo.2.1,hWo.2.2,hlast _ rfl⟩
set_option maxHeartbeats 4000000 in
set_option maxRecDepth 635 in
def Qpf (L:QiO P ρ n1 n2 E z by_ zv)(base va:O_ Addr)(n c vc:Nat)(w:World)(O:Value)(w':World)
  (h:∀ty,(Builtin.append_ #[(ρ.t 24),(ρ.t 24)] ty #[.slice base n c,.slice va 1 vc]).run P w=.ok O w'):
  Calls P (ρ.f 22) #[.slice base n c,.int .i64 n,.slice va 1 vc] w λe w2=>e=.returned O/\w2=w':=by
 have t0:=L.t0;have t3:=L.t3;have t4:=L.t4;have t24:=L.t24;have u0:=run_underlying L.t0;have u3:=run_underlying L.t3;have u4:=run_underlying L.t4;have u24:=run_underlying L.t24;have zE:=L.zE;have mixed:=L.mixed;have hz1:¬((1:Int)=0):=by omega
 have hb0:(0:Int)<=(n:Int):=by omega
 go_enter L.f22,Qhe ρ n1
 go_wp2_with (at_builtin;refine Lib.wpList_append_run _ rfl _ _ _ _ rfl _ _ rfl rfl _ _ (h _) ?_)
 all_goals
  go_ret
  exact⟨rfl,rfl⟩
def GJ (I:Nat->Prop)(w:World)(z:Nat)(l:L_ Value)(rs:L_ (L_ V)):Prop:=l.length=rs.length*z/\(∀r∈rs,Uw z r)/\(∀u∈l,u.oneCell'=t_)/\∀(i:Nat) r,rs[i]? = X r->∀(j:Nat) v,r[j]? = X v->∃u,l[i*z+j]? = X u/\XJ I w u v
def GJ.append {I:Nat->Prop}{w:World}{l m:L_ Value}{rs us:L_ (L_ V)}(h:GJ I w z l rs)(k:GJ I w z m us):GJ I w z (l++m) (rs++us):=by
 obtain⟨O,h2,h3,h4⟩:=h;obtain⟨k1,k2,k3,k4⟩:=k;obtain⟨g1,g2⟩:=Zo (rest:=[]) (n:=rs.length) rfl O h2 k2 k1 h4 k4;refine⟨by rw[YR,YR,O,k1,YS],g1,λu hu=>(Jy.1 hu).elim (h3 u) (k3 u),by simpa using g2⟩
def GJ.take {I:Nat->Prop}{w:World}{l:L_ Value}{rs:L_ (L_ V)}(h:GJ I w z l rs){i:Nat}(hi:i<=rs.length):GJ I w z (l.take (i*z)) (rs.take i):=by
 obtain⟨h1,h2,h3,h4⟩:=h;have hle:i*z<=rs.length*z:=Ys z hi;refine⟨by rw[Kd,Kd,h1,HZ hle,HZ hi],λr hr=>h2 r (DV hr),λu hu=>h3 u (DV hu),λk r O j v hj=>?_⟩;rw[YQ]at O;split at O
 ·rename_i hki;obtain⟨u,hu,hD⟩:=h4 k r O j v hj;have hjz:j<z:=by have:=(QX.1 hj).1;rwa[(h2 r (XG O)).1]at this
  have:(k+1)*z<=i*z:=Ys z hki;rw[YS]at this;exact⟨u,by rw[YQ,if_pos (by omega)];exact hu,hD⟩
 cases O
def GJ.drop {I:Nat->Prop}{w:World}{l:L_ Value}{rs:L_ (L_ V)}(h:GJ I w z l rs){i:Nat}(hi:i<=rs.length):GJ I w z (l.drop (i*z)) (rs.drop i):=by
 obtain⟨h1,h2,h3,h4⟩:=h;refine⟨by rw[Hh,Hh,h1,Nat.sub_mul],λr hr=>h2 r (Nr hr),λu O=>h3 u (Nr O),λk r hk j v hj=>?_⟩;rw[WP]at hk;obtain⟨u,O,hD⟩:=h4 _ r hk j v hj;exact⟨u,by rw[WP,<-O];congr 1;rw[YS];omega,hD⟩
def GJ.mono {I I':Nat->Prop}{w w':World}(O:∀k,I k->I' k/\w'.heap[k]? = w.heap[k]?){l:L_ Value}{rs:L_ (L_ V)}(h:GJ I w z l rs):GJ I' w' z l rs:=
 ⟨h.1,h.2.1,h.2.2.1,λi r hi j v hj=>let ⟨u,hu,hD⟩:=h.2.2.2 i r hi j v hj;⟨u,hu,hD.mono O⟩⟩
def Yc.flat {I:Nat->Prop}{w:World}{B:QV}{rs:L_ (L_ V)}(hz0:0<z)(h:Yc I w B z rs):B.z=z/\rs.length<=B.cap/\∃cs E l,w.heap[B.b]? = X (.cells cs E (0,0))/\B.off+B.cap*z<=cs.size/\GJ I w z l rs/\
  ∀(j:Nat) v,l[j]? = X v->cs[B.off+j]? = X v:=by
 obtain⟨h1,h2,h3,cs,E,h4,h5,h6⟩:=h;have hle:rs.length*z<=B.cap*z:=Ys z h2;have hl:∀(j:Nat),j<rs.length*z->((cs.toList.drop B.off).take (rs.length*z))[j]? = cs[B.off+j]? := λj hj=>by rw[YQ,if_pos hj,WP];simp
 have O:((cs.toList.drop B.off).take (rs.length*z)).length=rs.length*z:=by simp;omega
 refine⟨h1,h2,cs,E,(cs.toList.drop B.off).take (rs.length*z),h4,h5,⟨O,h3,λu hu=>?_,λi r hi j v hj=>?_⟩,λj v hj=>?_⟩
 ·obtain⟨k,hk⟩:=GD.1 hu;have hkl:=(QX.1 hk).1;rw[O]at hkl;rw[hl k hkl]at hk;have hi:k / z<rs.length:=(Nat.div_lt_iff_lt_mul hz0).2 hkl;have hrow:=h3 rs[k / z] (Jc _);have hjz:k % z<(rs[k / z]).length:=by rw[hrow.1];exact Nat.mod_lt _ hz0
  obtain⟨x,hx,hD⟩:=h6 (k / z) _ (QI hi) (k % z) _ (QI hjz);rw[show k / z*z+k % z=k by rw[Nat.mul_comm];exact Nat.div_add_mod k z,hk]at hx;cases hx;exact((QR.dat (Z:=λ_=>n_) hD).oneCell (hrow.2 _ (Jc _))).2
 ·have hil:=(QX.1 hi).1;have hjz:j<z:=by have:=(QX.1 hj).1;rwa[(h3 r (XG hi)).1]at this
  have:(i+1)*z<=rs.length*z:=Ys z hil;rw[YS]at this;rw[hl _ (by omega)];exact h6 i r hi j v hj
 have hjl:=(QX.1 hj).1;rw[O]at hjl;rw[<-hl j hjl];exact hj
def Qwn {S:Nat->Prop}{Z:Nat->O_ QV}{w w':World}{vals:Array Value}{args:L_ V}{rs us rs':L_ (L_ V)}{B':QV}{l:L_ Value}{O:Array Value}{E':TypeId}(hi:Ins S Z w vals args [(635,.arr z rs),(636,.arr z us)])
  (ho:w'.os=w.os) (ht:w'.tape=w.tape) (hu:w'.output=w.output) (hs:w.heap.size<=w'.heap.size) (hm:B'.more=[]) (hBz:B'.z=z) (hlt:B'.b<w'.heap.size) (hk:∀k,k<w.heap.size->k≠B'.b->w'.heap[k]? = w.heap[k]?)
  (hold:B'.b<w.heap.size->∃B,Z 635=X B/\B.has B'.b) (hl:GJ S w z l rs') (hg:w'.heap[B'.b]? = X (.cells O E' (0,0))) (hsz:B'.off+B'.cap*z<=O.size) (hcap:rs'.length<=B'.cap)
  (hc:∀(j:Nat) v,l[j]? = X v->O[B'.off+j]? = X v):
  Outs S Z w (λo=>if o=635 then X B' else n_) w' (.slice (X ⟨B'.b,B'.off,n_⟩) rs'.length B'.cap) (.own 635 rs'.length) [(635,.arr z rs')]:=by
 have hB:∀k,B'.has k↔k=B'.b:=λk=>by simp[QV.has,hm]
 have hφ:∀o B,(if o=635 then X B' else n_)=X B->o=635/\B=B':=λo B h=>by
  split at h
  ·rename_i e;cases h;exact⟨e,rfl⟩
  cases h
 have hS:∀k,S k->k<w.heap.size/\k≠B'.b:=λk hk'=>⟨hi.lt k hk',λe=>by
  obtain⟨B,h1,h2⟩:=hold (e▸hi.lt k hk');exact((hi.dom _ B h1).2.1 _ h2).2 (e▸hk')⟩
 have hA:∀k,S k->Aft S (λo=>if o=635 then X B' else n_) w w' k/\w'.heap[k]? = w.heap[k]? := λk hk'=>by
  obtain⟨h1,h2⟩:=hS k hk';refine⟨⟨AE h1 hs,λ_=>hk',λo B h e=>?_⟩,hk k h1 h2⟩;obtain⟨_,rfl⟩:=hφ o B h;exact h2 ((hB k).1 e)
 refine⟨ho,ht,hu,hs,λk h1 h2=>hk k h1 λe=>?_,λo o' B1 B2 k h1 h2 _ _=>?_,λo B h=>?_,λo B k h h2=>?_,λo B k h h2 h3=>?_,⟨λo B h1 h=>?_,λo ob B h1 h2 h3=>?_⟩,.own 635 _ B' (by simp) hcap,λo ob h=>?_⟩
 ·obtain⟨B,h3,h4⟩:=hold (e▸h1);exact h2 _ B h3 (e▸h4)
 ·rw[(hφ o B1 h1).1,(hφ o' B2 h2).1]
 ·rw[(hφ o B h).1];exact⟨_,QB _ _ _⟩
 ·obtain⟨_,rfl⟩:=hφ o B h;rw[(hB k).1 h2];exact⟨hlt,λh3=>let ⟨B,h4,h5⟩:=hold h3;⟨_,B,h4,h5⟩⟩
 ·have:=(hφ o B h).1;omega
 ·have:=(hφ o B h).1;omega
 ·by_cases e:635=o
  ·omega
  rw[Qz _ _ e]at h2;cases h2
 by_cases e:635=o
 ·subst e;rw[QB]at h;cases h;refine .inl ⟨B',by simp,hBz,hcap,hl.2.1,O,E',hg,hsz,λi r hi j v hj=>?_⟩;obtain⟨u,hu,hD⟩:=hl.2.2.2 i r hi j v hj;exact⟨u,hc _ u hu,hD.mono hA⟩
 rw[Qz _ _ e]at h;cases h
def Qsi (L:QiO P ρ n1 n2 E z by_ zv)(rs:L_ (L_ V))(u:L_ V)(i:Int)(h0:0<=i)(hi:i.toNat<=rs.length)(hn:rs.length+1<=4294967296):
  QQ P (ρ.f 22) [.own 635 rs.length,.i .i64 i,.own 636 1] [(635,.arr z rs),(636,.arr z [u])] (Gives (.own 635 (rs.take i.toNat++u::rs.drop i.toNat).length) [(635,.arr z (rs.take i.toNat++u::rs.drop i.toNat))]):=by
 intro S Z w vals hin _;obtain⟨m,rfl⟩:∃m:Nat,i=m:=⟨i.toNat,by omega⟩;rw[Jb]at hi ⊢;have hs:=hin.size;obtain⟨v0,v1,v2,hv⟩:∃v0 v1 v2,vals=#[v0,v1,v2]:=by
  obtain⟨l⟩:=vals
  match l,hs with|[x,y,z],_=>exact⟨x,y,z,rfl⟩
 subst hv;have a0:=hin.args 0 v0 _ rfl rfl;have a1:=(hin.args 1 v1 _ rfl rfl).i_inv;have a2:=hin.args 2 v2 _ rfl rfl;subst a1;have hlen:(rs.take m++u::rs.drop m).length=rs.length+1:=by simp;omega
 have happ:rs.take m++u::rs.drop m=rs.take m++[u]++rs.drop m:=by simp
 obtain⟨i0,hi0,hz0,hzs,hzb⟩:=info_parts L.iE;have hsm:=L.small;have hbig:(rs.length+1)*by_<=140737488355328:=by
  have:(rs.length+1)*by_<=4294967296*32768:=Nat.mul_le_mul hn hsm;omega
 rcases a2.own_inv with⟨_,h⟩|⟨O,hB2,hc2,rfl⟩
 ·omega
 have hob2:Yc S w O z [u]:=by
  rcases hin.heap 636 (.arr z [u]) (by rw[Qz _ _ (by omega)];exact QB _ _ _)with⟨B',hB',hr⟩|⟨hn',_⟩
  ·rw[hB2]at hB';cases hB';exact hr
  rw[hB2]at hn';cases hn'
 obtain⟨_,_,vcur,Ev,vs,hvg,_,hvr,hvc⟩:=Yc.flat L.z0 hob2;have hvl:vs.length=z:=by have:=hvr.1;simpa using this
 have hvs:∀(j:Nat) v,vs[j]? = X v->w.cell? ((⟨O.b,O.off,n_⟩:Addr).add j)=X v:=λj v hj=>by
  rw[Addr.add_lit];show(match w.heap[O.b]? with|some (.cells c _ _)=>c[O.off+j]? | _=>n_)=X v
  simp only[hvg,hvc j v hj]
 have fin:∀{B':QV} {w':World} {l:L_ Value} {cur':Array Value} {E':TypeId},w'.os=w.os->w'.tape=w.tape->w'.output=w.output->w.heap.size<=w'.heap.size->B'.more=[]->B'.z=z->B'.b<w'.heap.size->(∀k,k<w.heap.size->k≠B'.b->w'.heap[k]? = w.heap[k]?)->
   (B'.b<w.heap.size->∃B,Z 635=X B/\B.has B'.b)->GJ S w z l (rs.take m++u::rs.drop m)->w'.heap[B'.b]? = X (.cells cur' E' (0,0))->B'.off+B'.cap*z<=cur'.size->rs.length+1<=B'.cap->(∀(j:Nat) v,l[j]? = X v->cur'[B'.off+j]? = X v)->
   ∃x v hs' φ',Ending.returned (.slice (X ⟨B'.b,B'.off,n_⟩) (rs.length+1) B'.cap)=Ending.returned x/\Gives (.own 635 (rs.take m++u::rs.drop m).length) [(635,.arr z (rs.take m++u::rs.drop m))] v hs'/\Outs S Z w φ' w' x v hs':=by
  intro B' w' l cur' E' g1 g2 g3 g4 g5 g6 g7 g8 g9 g10 g11 g12 g13 g14;have:=Qwn (rs':=rs.take m++u::rs.drop m) hin g1 g2 g3 g4 g5 g6 g7 g8 g9 g10 g11 g12 (by rw[hlen];exact g13) g14;exact⟨_,_,_,_,rfl,⟨rfl,λc ob h=>h⟩,by rw[hlen]at this ⊢;exact this⟩
 have mid:∀{l:L_ Value},GJ S w z l rs->GJ S w z (l.take (m*z)++vs++l.drop (m*z)) (rs.take m++u::rs.drop m):=λh=>by
  rw[happ];exact((h.take hi).append hvr).append (h.drop hi)
 rcases a0.own_inv with⟨rfl,h0⟩|⟨B,hB,hcap,rfl⟩
 ·
  have:rs=[]:=Qm2 h0;subst this;have hm0:m=0:=by simpa using hi
  subst hm0;have hrun:=λty=>run_append_nil (P:=P) w (ρ.t 24) ty E i0 zv L.t24 hi0 hz0 ⟨O.b,O.off,n_⟩ 1 O.cap vs (by rw[hvl,hzs,Ia]) hvs (by omega) (by omega) (by rw[hzb];omega);refine(Qpf L n_ (X ⟨O.b,O.off,n_⟩) 0 0 O.cap w _ _ hrun).mono ?_;rintro e w' ⟨rfl,rfl⟩;have hge:=grownCap_ge w 1 0 E;refine fin (B':=⟨w.heap.size,grownCap w 1 0 E,z,[],0⟩) (l:=vs) rfl rfl rfl (by simp) rfl rfl (by simp) (λk hk _=>Below.heap_alloc w.drew _ k hk) (λh=>by simp at h) (by simpa using hvr) (heap_alloc_new w.drew _) ?_ hge (λj v hj=>?_)
  ·simp only[Array.size_append,Zl,hvl,size_zeroCells,L.zc,DY];have:z+(grownCap w 1 0 E-1)*z=grownCap w 1 0 E*z:=by
    have h1:grownCap w 1 0 E=1+(grownCap w 1 0 E-1):=by omega
    calc z+(grownCap w 1 0 E-1)*z=(1+(grownCap w 1 0 E-1))*z:=by rw[YS,Ia]
     _=_:=by rw[<-h1]
   omega
  have:=(QX.1 hj).1;rw[DY,Qo2 (by simpa using this)];simpa using hj
 have hob:Yc S w B z rs:=by
  rcases hin.heap 635 _ (QB _ _ _)with⟨B',hB',hr⟩|⟨hn',_⟩
  ·rw[hB]at hB';cases hB';exact hr
  rw[hB]at hn';cases hn'
 obtain⟨hBz,_,cur,Eb,cs,hg,hfit,hr,hc⟩:=Yc.flat L.z0 hob;have hlt:B.b<w.heap.size:=((hin.dom _ _ hB).2.1 _ B.self).1;have hne:O.b≠B.b:=λe=>by
  have:=hin.inj _ _ _ _ B.b hB hB2 B.self (e▸O.self);omega
 have hcells:∀(j:Nat) v,cs[j]? = X v->w.cell? ((⟨B.b,B.off,n_⟩:Addr).add j)=X v:=λj v hj=>by
  rw[Addr.add_lit];show(match w.heap[B.b]? with|some (.cells c _ _)=>c[B.off+j]? | _=>n_)=X v
  simp only[hg,hc j v hj]
 let B':QV:=⟨B.b,B.cap,z,[],B.off⟩;have hold:∀k,k=B.b->∃B,Z 635=X B/\B.has k:=λk e=>⟨B,hB,e▸B.self⟩;by_cases hend:m=rs.length
 ·subst hend;by_cases hroom:rs.length+1<=B.cap
  ·have hfit':B.off+rs.length*i0.size+vs.length<=cur.size:=by
    rw[hzs,hvl];have:(rs.length+1)*z<=B.cap*z:=Ys z hroom;rw[YS]at this;omega
   have hrun:=λty=>Qeb (P:=P) (T:=ρ.t 24) (ty:=ty) L.t24 hi0 B.b B.off rs.length B.cap cur hg ⟨O.b,O.off,n_⟩ 1 O.cap vs (by rw[hvl,hzs,Ia]) hvs hvr.2.2.1 hroom hfit';refine(Qpf L (X ⟨B.b,B.off,n_⟩) (X ⟨O.b,O.off,n_⟩) rs.length B.cap O.cap w _ _ hrun).mono ?_;rintro e w' ⟨rfl,rfl⟩;have hl1:B.off+rs.length*z+vs.length<=cur.toList.length:=by rw[<-hzs];simpa using hfit'
   refine fin (B':=B') (l:=cs.take (rs.length*z)++vs++cs.drop (rs.length*z)) rfl rfl rfl (by simp) rfl rfl (by simpa using hlt) (λk _ hk=>setRow_other w B.b k _ hk) (λ_=>hold _ rfl) (mid hr) (setRow_heap w B.b cur _ Eb _ hg) ?_ hroom (λj v hj=>?_)
   ·rw[hzs,Zl,Uc _ _ _ hl1];simpa using hfit
   rw[hzs,Uu,Mt _ _ _ hl1];have h1:cs.drop (rs.length*z)=[]:=List.drop_eq_nil_of_le (by rw[hr.1];exact YK _);rw[h1,Zg,DW (by rw[hr.1];exact YK _)]at hj;have hBo:B'.off=B.off:=rfl;by_cases hj1:j<cs.length
   ·rw[Yp hj1]at hj;rw[if_pos (by rw[hr.1]at hj1;omega)];simpa using hc j v hj
   rw[YJ (by omega)]at hj;have:=(QX.1 hj).1;rw[hr.1]at hj hj1 this;rw[if_neg (by omega),if_pos (by omega),<-hj];congr 1;omega
  have hrun:=λty=>run_append_grow (P:=P) w (ρ.t 24) ty E i0 zv L.t24 hi0 hz0 ⟨B.b,B.off,n_⟩ rs.length B.cap cs (by rw[hzs];exact hr.1) hcells ⟨O.b,O.off,n_⟩ 1 O.cap vs (by rw[hvl,hzs,Ia]) hvs (by omega) (by omega) (by rw[hzb];exact growslice_fits (by omega) hbig);refine(Qpf L (X ⟨B.b,B.off,n_⟩) (X ⟨O.b,O.off,n_⟩) rs.length B.cap O.cap w _ _ hrun).mono ?_;rintro e w' ⟨rfl,rfl⟩;have hge:=grownCap_ge w (rs.length+1) B.cap E;refine fin (B':=⟨w.heap.size,grownCap w (rs.length+1) B.cap E,z,[],0⟩) (l:=cs.take (rs.length*z)++vs++cs.drop (rs.length*z)) rfl rfl rfl (by simp) rfl rfl (by simp) (λk hk _=>Below.heap_alloc w.drew _ k hk) (λh=>by simp at h) (mid hr) (heap_alloc_new w.drew _) ?_ hge (λj v hj=>?_)
  ·simp only[Array.size_append,Zl,hvl,hr.1,size_zeroCells,L.zc,DY];have:rs.length*z+z+(grownCap w (rs.length+1) B.cap E-(rs.length+1))*z=grownCap w (rs.length+1) B.cap E*z:=by
    calc rs.length*z+z+(grownCap w (rs.length+1) B.cap E-(rs.length+1))*z=(rs.length+1+(grownCap w (rs.length+1) B.cap E-(rs.length+1)))*z:=by rw[YS,YS,Ia]
     _=_:=by congr 1;omega
   omega
  have h1:cs.drop (rs.length*z)=[]:=List.drop_eq_nil_of_le (by rw[hr.1];exact YK _);rw[h1,Zg,DW (by rw[hr.1];exact YK _)]at hj;have hjl:=(QX.1 hj).1;rw[DY,Qo2 (by simpa using hjl),List.append_toArray,Uu];exact hj
 by_cases hroom:rs.length+1<=B.cap
 ·refine(QuW L B.b B.off rs.length B.cap m O.b O.off O.cap cur vcur Eb Ev cs vs w (by omega) hroom hn hg hfit hr.1 hc hr.2.2.1 hvl hvg hvc hne hvr.2.2.1).mono ?_;rintro e w' ⟨rfl,g1,g2,g3,g4,g5,cur',g6,g7,g8⟩;exact fin (B':=B') g1 g2 g3 (by omega) rfl rfl (by rw[g4];exact hlt) (λk _ hk=>g5 k hk) (λ_=>hold _ rfl) (mid hr) g6 (by rw[g7];exact hfit) hroom g8
 refine(Qwm L B.b B.off rs.length B.cap m O.b O.off O.cap cur vcur Eb Ev cs vs w (by omega) hcap (by omega) hn hg hr.1 hc hr.2.2.1 hvl hvg hvc hvr.2.2.1).mono ?_;rintro e w' ⟨G,hG,rfl,g1,g2,g3,g4,g5,cur',g6,g7,g8⟩;exact fin (B':=⟨w.heap.size,G,z,[],0⟩) g1 g2 g3 (by omega) rfl rfl (by show w.heap.size<_;omega) (λk hk _=>g5 k hk) (λh=>absurd h (Nat.lt_irrefl _)) (mid hr) g6 (by rw[g7,DY];exact YK _) hG (λj v hj=>by rw[DY];exact g8 j v hj)
def ZO (z:Nat):Nat->L_ V->L_ (L_ V)
 |0,_=>[]|n+1,l=>l.take z::ZO z n (l.drop z)
def Qnl {z:Nat}:∀{n:Nat} {l:L_ V} {i:Nat} {r:L_ V},(ZO z n l)[i]? = X r->i<n/\r=(l.drop (i*z)).take z:=by
 intro n
 induction n with
 |zero=>intro l i r h;simp[ZO]at h|succ n ih=>
  intro l i r h;rw[ZO]at h;cases i with
  |zero=>simp at h;subst h;exact⟨by omega,by simp⟩|succ i=>
   simp at h;obtain⟨h1,O⟩:=ih h;exact⟨by omega,by rw[O,List.drop_drop,YS,Ia,Nat.add_comm]⟩
def QtZ {z:Nat}:∀(n:Nat) (l:L_ V),(ZO z n l).length=n:=by
 intro n
 induction n with|zero=>intro l;rfl|succ n h=>intro l;rw[ZO,DU,h]
section
variable {C:Xs}{Y:St}{o:Oper}
end
section
variable {P:Program}{C:Xs}{Y:St}{o:Oper}
def Stp.appSB {T U d e e' z z' by_ by' b n m:Nat}{x y:Operand}{rs us rs':L_ (L_ V)}{zs:L_ V}(ho:o.op=.call { callee:=.builtin .append,args:=#[x,y],argTypes:=#[T,U] })
  (hd:o.dst=X d) (hn:B_ d C) (hx:Y.opd x=X (.own b n)) (hb:look Y.hp b=X (.arr z rs)) (hb1:Nat.ble 639 b=false) (hnl:rs.length=n)
  (hT:XZ P T=X (e,z,by_)) (hU:XZ P U=X (e',z',by')) (hz:Xm P e=X zs) (hzl:zs.length=z) (hz0:z≠0) (O:1<=by_) (h:decide ((n+us.length)*by_<=140737488355328)=t_)
  (hy:Y.opd y=X (.sl z us)) (he:rs++us=rs') (hm:n+us.length=m):Stp P C o Y (Y.app b z d m rs'):=
 Stp.appendB ho hd hn hx hb hb1 hnl hT hU hz hzl hz0 (Yx (Nat.le_mul_of_pos_right _ O) (QZ h)) (QZ h) (λZ a w hr=>(hr.opd hy).source_sl) he hm
def Gn {α β:Type}{us:L_ α}{y:L_ β}{n b L:Nat}(h:decide ((n+y.length)*b<=L)=t_)(e:us.length=y.length):decide ((n+us.length)*b<=L)=t_:=by rw[e];exact h
end
def QxF (t:TypeId){a:Array TypeId}{b:Array TypeId}{c:Bool}(fn:Fn)(xs O:Array Value)(w:World){P:Program}(h:P.underlying t=X (.func a b c)):(Op.equal t (.func fn xs O) .nilFunc).run P w=.ok false w:=by
 show(Op.equalIn (9999+1) t (.func fn xs O) .nilFunc).run P w=_;rw[Op.equalIn];simp only[Xh,run_underlying h,Xp,Xq]<;>rfl
def Qnm (P:Program)(T:TypeId):Bool:=match P.underlying T with|some (.func _ _ _)=>t_|_=>false
def Qwo {P:Program}{T:TypeId}(h:Qnm P T=t_):∃a b c,P.underlying T=X (.func a b c):=by
 unfold Qnm at h;split at h
 ·rename_i a b c e;exact⟨a,b,c,e⟩
 cases h
section
variable {P:Program}{C:Xs}{o:Oper}{Y:St}
def Stp.eqFn {T U d:Nat}{x y:Operand}{fn:Fn}{vs us:L_ V}(ho:o.op=.binOp .eql T x y U)(hd:o.dst=X d)(hn:B_ d C)(hx:Y.opd x=X (.clo fn vs us))(hy:Y.opd y=X (.lit .nilFunc))(h:Qnm P T=t_):Stp P C o Y (Y.put d (.b false)):=by
 obtain⟨_,_,_,h⟩:=Qwo h;refine Stp.same hd hn λZ a w hr=>?_;obtain⟨xs,ys,O,_⟩:=(hr.opd hx).clo_inv;have hyv:=(hr.opd hy).lit_inv;refine⟨.bool false,?_,.dat (.b _)⟩;simp only[execOp,ho,O,hyv];simp[eqGuard,binOp,QxF _ _ _ _ w h]
end
section
variable {P:Program}{C:Xs}{Y:St}{o:Oper}
def Qki (s:ByteArray)(c:Int):Int:=Lib.indexByte s.data.toList c.toNat.toUInt8
def Qxn (P:Program)(f:FuncId):Prop:=∃fn,P.funcs[f]? = some fn∧(fn.name == "runtime.NumGoroutine")=false∧fn.body.isNone=true∧Extern.findNext fn=none∧Extern.find fn=some Extern.BytealgIndexByte.indexByte
def Stp.idxByteS {f d:Nat}{x y:Operand}{ts:Array TypeId}{s:ByteArray}{c:Int}(ho:o.op=.call { callee:=.value (.func f),args:=#[x,y],argTypes:=ts })(hd:o.dst=X d)(hn:B_ d C)
  (hx:Y.opd x=X (.s s)) (hy:Y.opd y=X (.i .u8 c)) (hf:Qxn P f):Stp P C o Y (Y.put d (.i .i64 (Qki s c))):=by
 refine Stp.same hd hn λZ a w hr=>⟨.int .i64 (Qki s c),?_,.dat (.i _ _)⟩;obtain⟨fn,h1,h2,h3,h4,h5⟩:=hf;have h:=(hr.opd hx).s_inv;have O:=(hr.opd hy).i_inv;have e2:(#[x,y]:Array Operand).map a.eval=#[.string s,.int .u8 c]:=by simp[h,O]
 simp only[execOp,ho,resolve,Xh,show a.eval (.func f)=.func (.func f) #[] #[]from rfl,Deferred.ofValue,Xq,Xp,invoke,Array.empty_append,Array.append_empty,e2];rw[run_callFunc_indexByte h1 h2 h3 h4 h5,Lib.run_indexByteString];rfl
def Qt0 (k:IntKind)(n:Int):Int:=QiN k (if k.signed then -1 else k.max) n
def Stp.notB {x:Operand}{T d:Nat}{k:IntKind}{n:Int}(ho:o.op=.unOp .xor T x)(h:o.dst=X d)(O:B_ d C)(hx:Y.opd x=X (.i k n)):Stp P C o Y (Y.put d (.i k (Qt0 k n))):=
 Stp.same h O λZ a w hr=>⟨.int k _,by simp[execOp,ho,(hr.opd hx).i_inv,Op.unary,Op.intBits,Qt0,QiN],.dat (.i _ _)⟩
def Stp.eqLoc {T U d e b i j:Nat}{x y:Operand}(ho:o.op=.binOp .eql T x y U)(hd:o.dst=X d)(hn:B_ d C)(hx:Y.opd x=X (.loc b i j))(hy:Y.opd y=X (.lit (.pointer n_)))(hT:P.underlying T=X (.pointer e)):Stp P C o Y (Y.put d (.b false)):=by
 refine Stp.same hd hn λZ a w hr=>⟨.bool false,?_,.dat (.b _)⟩;obtain⟨B,_,h⟩:=(hr.opd hx).loc_inv;have O:=(hr.opd hy).lit_inv;simp only[execOp,ho,h,O];simp[eqGuard,binOp,QxE _ _ _ w hT]
def Stp.sliceTlV {T d b k n z:Nat}{x:Operand}{cs:L_ V}(ho:o.op=.slice T x n_ n_ n_)(hd:o.dst=X d)(hn:B_ d C)(hx:Y.opd x=X (.loc b 0 k))(hb:look Y.hp b=X (.var cs))
  (hT:SC P T=X (n,z)):Stp P C o Y (Y.put d (.tl b k n)):=by
 refine Stp.same hd hn λZ a w h=>?_;obtain⟨B,hB,he⟩:=(h.opd hx).loc_inv;obtain⟨xs,E,e1,e2,e0,e3⟩:=h.block hB hb;obtain⟨e,hu,i,hi,hiz⟩:=ZG hT;have O:a.eval x=.pointer (X ⟨B.b,B.off+k,n_⟩):=by rw[he];simp
 refine⟨.slice (X ⟨B.b,B.off+k,n_⟩) n n,?_,.tl b k n n B hB⟩;simp[execOp,ho,O,Instr.sliceAt,Instr.sureAddr,run_underlying hu,Instr.sliceBounds,sizeOf,typeInfo,hi,Addr.add_lit]
def Stp.sliceTl {T d b n e by_:Nat}{x lo:Operand}{rs:L_ (L_ V)}{k:IntKind}{L:Int}(ho:o.op=.slice T x (X lo) n_ n_)(hd:o.dst=X d)(hn:B_ d C)(hx:Y.opd x=X (.own b n))(hb:look Y.hp b=X (.arr 1 rs))
  (hT:XZ P T=X (e,1,by_)) (hl:Y.opd lo=X (.i k L)) (hk:(decide (0<=L)&&decide (L.toNat<=n))=t_):Stp P C o Y (Y.put d (.tl b L.toNat (n-L.toNat))):=by
 refine Stp.same hd hn λZ a w hr=>?_;rw[QL,QT,QT]at hk;obtain⟨h0,hle⟩:=hk;obtain⟨hu,i,hi',hiz,_⟩:=Jq hT;have h:Kt Y 0 (X lo) L.toNat:=.val hl h0 rfl;rcases(hr.opd hx).own_inv with⟨he,rfl⟩|⟨B,hB,O,he⟩
 ·have hL:L.toNat=0:=by omega
  refine⟨.slice n_ 0 0,?_,?_⟩
  ·have:=Di (P:=P) (w:=w) (b:=t_) (len:=0) (cap:=0) hr h (Kt.no:Kt Y 0 n_ 0) (by omega) (YK 0);simp only[Jh,CQ]at this;simp[execOp,ho,he,Instr.sliceAt,Instr.slice,run_underlying hu,this,sizeOf,typeInfo,hi',hL]
  rw[Nat.zero_sub];exact .tl0 _ _ _ _
 have:=Di (P:=P) (w:=w) (b:=t_) (len:=n) (cap:=B.cap) hr h (Kt.no:Kt Y n n_ n) hle O;simp only[Jh,CQ]at this;refine⟨.slice (if B.cap=L.toNat then X ⟨B.b,B.off,n_⟩else X ((⟨B.b,B.off,n_⟩:Addr).add (L.toNat*i.size))) (n-L.toNat) (B.cap-L.toNat),?_,?_⟩
 ·simp only[execOp,ho,he,Instr.sliceAt,Instr.slice,run_underlying hu,this,sizeOf,typeInfo,hi',Xh,Xq,run_program,Xp,Jh,CQ]
 by_cases hc:B.cap=L.toNat
 ·have:n-L.toNat=0:=by omega
  rw[this];exact .tl0 _ _ _ _
 rw[if_neg hc,hiz,Nat.mul_one,Addr.add_lit];exact .tl _ _ _ _ B hB
def cpL {α:Type}(e:L_ α)(l:Nat)(y:L_ α):L_ α:=e.take l++(y.take (e.length-l)++e.drop (l+y.length))
def cpN {α:Type}(e:L_ α)(l:Nat)(y:L_ α):Int:=((min (e.length-l) y.length:Nat):Int)
def Qhf {α:Type}(e:L_ α)(l:Nat)(y:L_ α):(cpL e l y).length=e.length:=by
 simp only[cpL,YR,Kd,Hh];omega
def Qpg {α:Type}(e:L_ α)(l:Nat)(y:L_ α)(i:Nat):(cpL e l y)[i]? = if i<l\/l+min (e.length-l) y.length<=i then e[i]? else y[i-l]? := by
 unfold cpL;by_cases h:i<l
 ·rw[if_pos (.inl h)];by_cases O:i<e.length
  ·rw[Yp (by simp;omega),YQ,if_pos h]
  rw[Zh (by simp;omega),Zh (by omega)]
 by_cases h3:e.length<=l
 ·rw[if_pos (.inr (by omega)),Zh (by simp;omega),Zh (by omega)]
 by_cases O:l+min (e.length-l) y.length<=i
 ·rw[if_pos (.inr O),YJ (by simp;omega),YJ (by simp;omega),WP];simp only[Kd];by_cases h4:y.length<=e.length-l
  ·congr 1;omega
  rw[Zh (by omega),Zh (by omega)]
 rw[if_neg (by omega),YJ (by simp;omega),Yp (by simp;omega),YQ,if_pos (by simp;omega)];congr 1;simp;omega
def Qee {P:Program}{w:World}{O sT ty E:TypeId}{i:TypeInfo}(hu:P.underlying O=X (.slice E))(hi:P.info? E=X i)(p a:O_ Addr)(n c m k:Nat)(h:Nat.min m n=0):
  (Builtin.copy_ #[O,sT] ty #[.slice p n c,.slice a m k]).run P w=.ok (goInt (0:Nat)) w:=by
 have hl:∀x:Addr,(loadCells x 0).run P w=.ok #[] w:=λx=>run_loadCells_list (P:=P) w x [] (λj v h=>by simp at h);cases a<;>cases p<;>simp[Builtin.copy_,run_underlying hu,Builtin.lenOf,Builtin.firstCells,sizeOf,typeInfo,hi,h,hl,storeCells]
def RR.again {Z:Nat->O_ QV}{a:Act}{w:World}(hr:RR C Z Y a w){b:Nat}{ob:Ob}(O:look Y.hp b=X ob):RR C Z (Y.set b ob) a w:=hr.sayOb O (λ_ _ h=>h) (.inl rfl)
def Stp.copyTl {T U d b l E F by_ by':Nat}{α:Type}{f:α->L_ V}{e y:L_ α}{x q:Operand}(ho:o.op=.call { callee:=.builtin .copy,args:=#[x,q],argTypes:=#[T,U] })(hd:o.dst=X d)(hn:B_ d C)
  (hx:Y.opd x=X (.tl b l (e.length-l))) (hb:look Y.hp b=X (.arr 1 (e.map f))) (hy:Y.opd q=X (.sl 1 (y.map f))) (hT:XZ P T=X (E,1,by_)) (hU:XZ P U=X (F,1,by')) (hle:l<=e.length):
  Stp P C o Y ((Y.set b (.arr 1 ((cpL e l y).map f))).put d (.i .i64 (cpN e l y))):=by
 refine Stp.val λZ a w hr=>?_;obtain⟨hu,i,hi',hiz,_⟩:=Jq hT;have hs:(P.info? E).map (·.size)=X 1:=by rw[hi'];simp[hiz]
 have exec:∀(p r:Value) {v:Value} {w':World},a.eval x=p->a.eval q=r->(Builtin.copy_ #[T,U] o.type #[p,r]).run P w=.ok v w'->(execOp a.eval o).run P w=.ok (.value v) w':=λp r v w' h1 h2 h3=>by
  simp[execOp,ho,resolve,invoke,builtin,h1,h2,h3]
 have same:min (e.length-l) y.length=0->RR C Z ((Y.set b (.arr 1 ((cpL e l y).map f))).put d (.i .i64 (cpN e l y))) (a.put (X d) (goInt (0:Nat))) w:=λh0=>by
  have e1:cpL e l y=e:=by
   apply List.ext_getElem?;intro k;rw[Qpg];split
   ·rfl
   omega
  have e2:cpN e l y=0:=by unfold cpN;rw[h0];rfl
  rw[e1,e2];exact(hr.again hb).put (Xv hn) (.dat (.i _ _))
 rcases(hr.opd hy).source_sl with⟨a2,c2,h2,hy0⟩|⟨p,c2,h,h2,hnl,hnc,hn1,hnok,hnd⟩
 ·have y0:y.length=0:=by have:=congrArg List.length hy0;simpa using this
  rcases(hr.opd hx).tl_inv with⟨ad,c,he,_⟩|⟨B,c,hB,he⟩ <;>
  exact⟨goInt (0:Nat),w,Z,exec _ _ he h2 (Qee hu hi' _ _ _ _ _ _ (by simp[Nat.min_def])),by rw[hd];exact same (by omega)⟩
 rw[KO]at h2 hnl;rcases(hr.opd hx).tl_inv with⟨ad,c,he,h0⟩|⟨B,c,hB,he⟩
 ·exact⟨goInt (0:Nat),w,Z,exec _ _ he h2 (Qee hu hi' _ _ _ _ _ _ (by simp only[Nat.min_def];split<;>omega)),by rw[hd];exact same (by omega)⟩
 obtain⟨hz,hrl,hok,xs,E',e1,e2,e3⟩:=hr.block hB hb;rw[Nat.mul_one]at e2;rw[KO]at hrl;obtain⟨m,hm⟩:∃m,m=min (e.length-l) y.length:=⟨_,rfl⟩;have hcs:(h.take m).length=m:=by rw[Kd,hnl];omega
 have hfit:B.off+l+(h.take m).length<=xs.size:=by omega
 have hrun:=Bn (P:=P) w T U o.type E B.b (B.off+l) (e.length-l) c p y.length c2 1 m xs E' (h.take m) hu hs e1 (by rw[hm];simp only[Nat.min_def];split<;>split<;>omega) (by rw[hcs,Nat.mul_one])
  (λj v hj=>by
   rw[YQ]at hj;split at hj
   ·exact hnc j v hj
   cases hj) hfit (λv hv=>hn1 v (DV hv))
 refine⟨_,_,Z,exec _ _ he h2 hrun,?_⟩;have hmN:goInt (m:Nat)=.int .i64 (cpN e l y):=by unfold cpN;rw[<-hm];rfl
 rw[hd,hmN];refine RR.put ?_ (Xv hn) (.dat (.i _ _));have hl1:B.off+l+(h.take m).length<=xs.toList.length:=by simpa using hfit
 refine hr.write hB rfl rfl rfl (by simp) (λk hk=>setRow_other w B.b k _ hk) ⟨hz,by simpa[Qhf] using hrl,λr hr'=>?_,_,E',setRow_heap w B.b xs _ E' _ e1,?_,λk r hk j v hj=>?_⟩
 ·obtain⟨u,O,rfl⟩:=Ye.1 hr';obtain⟨k,hk⟩:=GD.1 O;rw[Qpg]at hk;split at hk
  ·exact hok _ (Ye.2 ⟨u,XG hk,rfl⟩)
  exact hnok _ (Ye.2 ⟨u,XG hk,rfl⟩)
 ·rw[Zl,Uc _ _ _ hl1,Nat.mul_one];simpa using e2
 have hI:∀k,Xc C Z w k->Xc C Z (w.setRow B.b (xs.toList.take (B.off+l)++h.take m++xs.toList.drop (B.off+l+(h.take m).length)).toArray) k/\(w.setRow B.b (xs.toList.take (B.off+l)++h.take m++xs.toList.drop (B.off+l+(h.take m).length)).toArray).heap[k]? = w.heap[k]?:=
  λk hk=>⟨⟨by simpa using hk.1,hk.2⟩,setRow_other w B.b k _ λe=>hk.2.2 b B hB (.inl e)⟩
 rw[Ya]at hk;obtain⟨u,O,rfl⟩:=Yf.1 hk;rw[Qpg,<-hm]at O;rw[Nat.mul_one,Uu,Mt _ _ _ hl1];split at O
 ·rename_i hc;have hfu:=hok _ (Ye.2 ⟨u,XG O,rfl⟩);have hj0:j=0:=by have:=(QX.1 hj).1;rw[hfu.1]at this;omega
  subst hj0;obtain⟨x',hx',hD⟩:=e3 k (f u) (by rw[Ya,O];rfl) 0 v hj;rw[Nat.mul_one]at hx';refine⟨x',?_,hD.mono hI⟩;rw[hcs];by_cases h1:B.off+(k+0)<B.off+l
  ·rw[if_pos h1];simpa using hx'
  rw[if_neg h1,if_neg (by omega)];simpa using hx'
 rename_i hc;have hfu:=hnok _ (Ye.2 ⟨u,XG O,rfl⟩);have hj0:j=0:=by have:=(QX.1 hj).1;rw[hfu.1]at this;omega
 subst hj0;obtain⟨x',hx',hD⟩:=hnd (k-l) (f u) (by rw[Ya,O];rfl) 0 v hj;rw[Nat.mul_one,PO]at hx';refine⟨x',?_,hD.mono hI⟩;rw[hcs,if_neg (by omega),if_pos (by omega),YQ,if_pos (by omega),<-hx'];congr 1;omega
def Ls (n:Nat)(f:Int->L_ V)(e:L_ Int):L_ V:=(List.range n).flatMap λi=>f (e.getD i 0)
def cpA (e y:L_ Int):L_ Int:=y++e.drop y.length
def cpM (n:Nat)(y:L_ Int):Int:=((min n y.length:Nat):Int)
def Qnn (n:Nat)(z:Int)(e:L_ Int):L_ Int:=(List.range n).map λi=>e.getD i z
def QuX {b n:Nat}{z:Int}(e:L_ Int):V.own b n=V.own b (Qnn n z e).length:=by simp[Qnn]
def QxG (e y:L_ Int)(i:Nat):(cpA e y).getD i 0=if i<y.length then y.getD i 0 else e.getD i 0:=by
 unfold cpA;rw[Qm3,Qm3,Qm3];split
 ·rw[Yp (by omega)]
 rw[YJ (by omega),WP];congr 2;omega
def BD {n:Nat}{f:Int->L_ V}{e:L_ Int}(h:∀x,(f x).length=1):(Ls n f e).length=n:=by
 unfold Ls
 induction n with|zero=>rfl|succ n O=>rw[List.range_succ,Qd4,YR,O];simp[h]
def QqA {n:Nat}{f:Int->L_ V}{e:L_ Int}(O:∀x,(f x).length=1){i:Nat}(hi:i<n):(Ls n f e)[i]? = (f (e.getD i 0))[0]? := by
 unfold Ls
 induction n with
 |zero=>omega|succ n ih=>
  have hl:((List.range n).flatMap λi=>f (e.getD i 0)).length=n:=BD O;rw[List.range_succ,Qd4];by_cases h:i<n
  ·rw[Yp (by omega)];exact ih h
  have:i=n:=by omega
  subst this;rw[YJ (by omega),hl,Nat.sub_self];simp
def Stp.copyTlV {T U d b k n E F by_ by':Nat}{f:Int->L_ V}{pre post cs:L_ V}{e y:L_ Int}{x q:Operand}(ho:o.op=.call { callee:=.builtin .copy,args:=#[x,q],argTypes:=#[T,U] })(hd:o.dst=X d)(hn:B_ d C)
  (hx:Y.opd x=X (.tl b k n)) (hb:look Y.hp b=X (.var cs)) (hc:cs=pre++(Ls n f e++post)) (hy:Y.opd q=X (.sl 1 (y.map f))) (hT:XZ P T=X (E,1,by_)) (hU:XZ P U=X (F,1,by')) (hk:pre.length=k) (hf:∀x,(f x).length=1):
  Stp P C o Y ((Y.set b (.var (pre++(Ls n f (cpA e y)++post)))).put d (.i .i64 (cpM n y))):=by
 refine Stp.val λZ a w hr=>?_;subst hc hk;obtain⟨hu,i,hi',hiz,_⟩:=Jq hT;have hs:(P.info? E).map (·.size)=X 1:=by rw[hi'];simp[hiz]
 have exec:∀(p r:Value) {v:Value} {w':World},a.eval x=p->a.eval q=r->(Builtin.copy_ #[T,U] o.type #[p,r]).run P w=.ok v w'->(execOp a.eval o).run P w=.ok (.value v) w':=λp r v w' h1 h2 h3=>by
  simp[execOp,ho,resolve,invoke,builtin,h1,h2,h3]
 have cell:∀j,(pre++(Ls n f (cpA e y)++post))[j]? = if j<pre.length\/pre.length+min n y.length<=j then(pre++(Ls n f e++post))[j]? else(f (y.getD (j-pre.length) 0))[0]? := λj=>by
  by_cases h1:j<pre.length
  ·rw[if_pos (.inl h1),Yp h1,Yp h1]
  rw[YJ (by omega),YJ (l₁:=pre) (l₂:=Ls n f e++post) (by omega)];by_cases h2:j-pre.length<n
  ·rw[Yp (by rw[BD hf];exact h2),Yp (l₁:=Ls n f e) (by rw[BD hf];exact h2),QqA hf h2,QqA hf h2,QxG];by_cases h3:j-pre.length<y.length
   ·rw[if_pos h3,if_neg (by omega)]
   rw[if_neg h3,if_pos (.inr (by omega))]
  rw[if_pos (.inr (by omega)),YJ (by rw[BD hf];omega),YJ (l₁:=Ls n f e) (by rw[BD hf];omega),BD hf,BD hf]
 have same:min n y.length=0->RR C Z ((Y.set b (.var (pre++(Ls n f (cpA e y)++post)))).put d (.i .i64 (cpM n y))) (a.put (X d) (goInt (0:Nat))) w:=λh0=>by
  have e1:pre++(Ls n f (cpA e y)++post)=pre++(Ls n f e++post):=by
   apply List.ext_getElem?;intro k;rw[cell,if_pos (by omega)]
  have e2:cpM n y=0:=by unfold cpM;rw[h0];rfl
  rw[e1,e2];exact(hr.again hb).put (Xv hn) (.dat (.i _ _))
 rcases(hr.opd hy).source_sl with⟨a2,c2,h2,hy0⟩|⟨p,c2,O,h2,hnl,hnc,hn1,hnok,hnd⟩
 ·have y0:y.length=0:=by have:=congrArg List.length hy0;simpa using this
  rcases(hr.opd hx).tl_inv with⟨ad,c,he,_⟩|⟨B,c,hB,he⟩ <;>
  exact⟨goInt (0:Nat),w,Z,exec _ _ he h2 (Qee hu hi' _ _ _ _ _ _ (by simp[Nat.min_def])),by rw[hd];exact same (by omega)⟩
 rw[KO]at h2 hnl;rcases(hr.opd hx).tl_inv with⟨ad,c,he,h0⟩|⟨B,c,hB,he⟩
 ·exact⟨goInt (0:Nat),w,Z,exec _ _ he h2 (Qee hu hi' _ _ _ _ _ _ (by simp only[Nat.min_def];split<;>omega)),by rw[hd];exact same (by omega)⟩
 obtain⟨xs,E',e1,e2,e0,e3⟩:=hr.block hB hb;rw[e0,DY]at he;obtain⟨m,hm⟩:∃m,m=min n y.length:=⟨_,rfl⟩;have hcs:(O.take m).length=m:=by rw[Kd,hnl];omega
 have hsz:xs.size=pre.length+(n+post.length):=by rw[e2];simp[BD hf]
 have hfit:pre.length+(O.take m).length<=xs.size:=by omega
 have hrun:=Bn (P:=P) w T U o.type E B.b pre.length n c p y.length c2 1 m xs E' (O.take m) hu hs e1 (by rw[hm];simp only[Nat.min_def];split<;>split<;>omega) (by rw[hcs,Nat.mul_one])
  (λj v hj=>by
   rw[YQ]at hj;split at hj
   ·exact hnc j v hj
   cases hj) hfit (λv hv=>hn1 v (DV hv))
 refine⟨_,_,Z,exec _ _ he h2 hrun,?_⟩;have hmN:goInt (m:Nat)=.int .i64 (cpM n y):=by unfold cpM;rw[<-hm];rfl
 rw[hd,hmN];refine RR.put ?_ (Xv hn) (.dat (.i _ _));have hl1:pre.length+(O.take m).length<=xs.toList.length:=by simpa using hfit
 have hI:∀k,Xc C Z w k->Xc C Z (w.setRow B.b (xs.toList.take pre.length++O.take m++xs.toList.drop (pre.length+(O.take m).length)).toArray) k/\(w.setRow B.b (xs.toList.take pre.length++O.take m++xs.toList.drop (pre.length+(O.take m).length)).toArray).heap[k]? = w.heap[k]?:=
  λk hk=>⟨⟨by simpa using hk.1,hk.2⟩,setRow_other w B.b k _ λe=>hk.2.2 b B hB (.inl e)⟩
 refine hr.write hB rfl rfl rfl (by simp) (λk hk=>setRow_other w B.b k _ hk) ⟨_,E',setRow_heap w B.b xs _ E' _ e1,?_,e0,λj x' v hx' hv=>QR.mono (λ_ _ h=>h) hI ?_⟩
 ·rw[Zl,Uc _ _ _ hl1];simp[BD hf,hsz]
 rw[Uu,Mt _ _ _ hl1,hcs]at hx';rw[cell,<-hm]at hv;by_cases h1:j<pre.length
 ·rw[if_pos h1]at hx';rw[if_pos (.inl h1)]at hv;exact e3 j x' v (by simpa using hx') hv
 rw[if_neg h1]at hx';by_cases h4:j<pre.length+m
 ·rw[if_pos h4,YQ,if_pos (by omega)]at hx';rw[if_neg (by omega)]at hv;have hyl:j-pre.length<y.length:=by omega
  obtain⟨x2,hx2,hD⟩:=hnd (j-pre.length) (f y[j-pre.length]) (by rw[Ya,QI hyl];rfl) 0 v (by rw[<-hv,Qm3,QI hyl];rfl);rw[Nat.mul_one,PO,hx']at hx2;cases hx2;exact .dat hD
 rw[if_neg h4]at hx';rw[if_pos (.inr (by omega))]at hv;exact e3 j x' v (by simpa using hx') hv
def Stp.sliceVarO {T d b n:Nat}{x:Operand}{cs:L_ V}{rows:L_ (L_ V)}(ho:o.op=.slice T x n_ n_ n_)(hd:o.dst=X d)(hn:B_ d C)(hx:Y.opd x=X (.loc b 0 0))(hb:look Y.hp b=X (.var cs))(hp:Nat.ble 635 b=false)
  (hT:SC P T=X (n,1)) (hl:Nat.beq cs.length n=t_) (h0:1<=n) (h1:cs.all V.one=t_) (h2:cs.all V.dat=t_) (hr:ZO 1 n cs=rows):Stp P C o Y (((Y.kill b).set b (.arr 1 rows)).put d (.own b n)):=by
 refine Stp.val λZ a w O=>?_;subst hr;obtain⟨B,hB,he⟩:=(O.opd hx).loc_inv;obtain⟨xs,E,e1,e2,e0,e3⟩:=O.block hB hb;obtain⟨e,hu,i,hi,hiz⟩:=ZG hT;have hl':=Yr hl;rw[XM]at h1 h2;have hev:a.eval x=.pointer (X ⟨B.b,0,n_⟩):=by rw[he,e0];simp
 let B':QV:=⟨B.b,n,1,B.more,0⟩;refine⟨.slice (X ⟨B.b,0,n_⟩) n n,w,ext Z b B',?_,?_⟩
 ·have hn0:n≠0:=by omega
  simp[execOp,ho,hev,Instr.sliceAt,Instr.sureAddr,run_underlying hu,Instr.sliceBounds,sizeOf,typeInfo,hi,Addr.add_lit]
 rw[hd];have hb':b<635:=Qcd hp;refine(O.rebase (B':=B') hB (by omega) rfl rfl (.arr 1 (ZO 1 n cs)) ⟨rfl,by rw[QtZ];exact YK _,λr hr=>?_,xs,E,e1,by simp only[B'];omega,λk r hk j v h=>?_⟩).put (Xv hn) ?_
 ·obtain⟨i,hi⟩:=GD.1 hr;obtain⟨hin,rfl⟩:=Qnl hi;exact⟨by simp;omega,λv hv=>h1 v (Nr (DV hv))⟩
 ·obtain⟨hin,rfl⟩:=Qnl hk;rw[YQ]at h;split at h
  ·rw[WP]at h;have hlt:k*1+j<xs.size:=by rw[e2];exact(QX.1 h).1
   refine⟨xs[k*1+j],by simp only[B'];rw[DY];exact GR hlt,(e3 _ _ v (GR hlt) h).toDat (h2 v (XG h))⟩
  cases h
 exact .own b n B' (Xb _ _ _) (YK _)
def Stp.sliceD3 {T d e z by_ n:Nat}{x lo hi mx:Operand}{k1 k2 k3:IntKind}{L H M:Int}{rows us:L_ (L_ V)}(ho:o.op=.slice T x (X lo) (X hi) (X mx))(hd:o.dst=X d)(hn:B_ d C)(hx:Y.opd x=X (.sl z rows))
  (hT:XZ P T=X (e,z,by_)) (hl:Y.opd lo=X (.i k1 L)) (hh:Y.opd hi=X (.i k2 H)) (hm:Y.opd mx=X (.i k3 M)) (hlen:rows.length=n)
  (h:(decide (0<=L)&&decide (0<=H)&&decide (0<=M)&&decide (L.toNat<=H.toNat)&&decide (H.toNat<=M.toNat)&&decide (M.toNat<=n))=t_) (hu:(rows.drop L.toNat).take (H.toNat-L.toNat)=us):Stp P C o Y (Y.put d (.sl z us)):=by
 refine Stp.same hd hn λZ a w hr=>?_;subst hu hlen;simp only[QL,QT]at h;obtain⟨⟨⟨⟨⟨l0,g0⟩,m0⟩,lh⟩,hM⟩,mn⟩:=h;obtain⟨hu,i,hi',hiz,_⟩:=Jq hT;have bnd:∀(len cap:Nat),M.toNat<=cap->(Instr.sliceBounds t_ len cap (X (a.eval lo)) (X (a.eval hi)) (X (a.eval mx))).run P w=.ok (L.toNat,H.toNat,M.toNat) w:=λlen cap hc=>by
  simp[Instr.sliceBounds,(hr.opd hl).i_inv,(hr.opd hh).i_inv,(hr.opd hm).i_inv,Gc m0 hc,Gc g0 hM,Gc l0 lh]
 rcases(hr.opd hx).sl_inv with⟨a0,cap,he,rfl⟩|⟨b,off,cap,he,hI,hcap,hok,c,hc,O⟩
 ·have h0:M.toNat=0:=by simpa using mn
  have hH:H.toNat=0:=by omega
  have hL:L.toNat=0:=by omega
  have:=bnd 0 cap (by omega);rw[hH,hL,h0]at this;refine⟨.slice (if 0=0 then a0 else a0.map (·.add (0*i.size))) 0 0,?_,by simp only[List.drop_nil,List.take_nil];exact .dat (.sl0 _ _ _)⟩;simp[execOp,ho,he,Instr.sliceAt,Instr.slice,run_underlying hu,this,sizeOf,typeInfo,hi']
 refine⟨.slice (if M.toNat=L.toNat then X ⟨b,off,n_⟩else X ((⟨b,off,n_⟩:Addr).add (L.toNat*i.size))) (H.toNat-L.toNat) (M.toNat-L.toNat),?_,.dat ?_⟩
 ·simp only[execOp,ho,he,Instr.sliceAt,Instr.slice,run_underlying hu,Jh,bnd rows.length cap (by omega),sizeOf,typeInfo,hi',Xh,Xq,run_program,Xp]
 by_cases hlh:H.toNat-L.toNat=0
 ·rw[hlh];simp only[List.take_zero];exact .sl0 _ _ _
 rw[if_neg (by omega),hiz,Addr.add_lit];refine .sl b (off+L.toNat*z) (H.toNat-L.toNat) (M.toNat-L.toNat) z _ (λj=>c (L.toNat*z+j)) hI (by simp;omega) (by omega) (λr hr'=>hok r (Nr (DV hr'))) (λj hj=>?_) (λk r h j v hj=>?_)
 ·have hle:L.toNat*z+(H.toNat-L.toNat)*z<=rows.length*z:=by rw[<-YS];exact Ys _ (by omega)
  have:=hc (L.toNat*z+j) (by omega);rw[Ns];exact this
 rw[YQ]at h;split at h
 ·rw[WP]at h;have:=O (L.toNat+k) r h j v hj;rw[YS]at this;rw[<-Ns];exact this
 cases h
def QAi {α:Type}{f:α->L_ V}{l:L_ α}{x:α}(h:idx l 1=X x):2<=(l.map f).length:=by
 have:=(Kg h).2;rw[KO];exact(QX.1 this).1
def QAj {α:Type}{f:α->L_ V}{l:L_ α}{x y:α}(O:idx l 0=X x)(h1:idx l 1=X y):((l.map f).take 2).flatten=f x++f y:=by
 have e0:=(Kg O).2;have h:=(Kg h1).2;cases l with
 |nil=>cases e0
 |cons a l=>cases l with
  |nil=>cases h
  |cons b l=>simp at e0 h;subst e0;subst h;simp
def Stp.s2a {T d n:Nat}{x:Operand}{rows:L_ (L_ V)}{cs:L_ V}(ho:o.op=.sliceToArrayPointer T x)(hd:o.dst=X d)(hn:B_ d C)(hx:Y.opd x=X (.sl 1 rows))(hT:SC P T=X (n,1))(h0:1<=n)(hle:n<=rows.length)
  (O:(rows.take n).flatten=cs):Stp P C o Y (Y.put d (.ro cs)):=by
 refine Stp.same hd hn λZ a w hrr=>?_;subst O;obtain⟨e,hu,i,hi,hiz⟩:=ZG hT;rcases(hrr.opd hx).sl_inv with⟨a0,cap,he,rfl⟩|⟨b,off,cap,he,hI,hcap,hok,c,hc,hdat⟩
 ·simp at hle;omega
 have flat:∀(k:Nat) (l:L_ (L_ V)),(∀r∈l,Uw 1 r)->∀j:Nat,((l.take k).flatten)[j]? = (l.take k)[j]?.bind (λr:L_ V=>r[0]?):=by
  intro k l hl;have:∀(l:L_ (L_ V)),(∀r∈l,Uw 1 r)->∀j:Nat,l.flatten[j]? = l[j]?.bind (λr:L_ V=>r[0]?):=by
   intro l
   induction l with
   |nil=>intro _ j;simp|cons r l ih=>
    intro h j;obtain⟨v,rfl⟩:∃v,r=[v]:=List.length_eq_one_iff.1 (h r Yd).1;cases j with|zero=>simp|succ j=>simp only[List.flatten_cons,List.singleton_append,QgO];exact ih (λr O=>h r (Yq _ O)) j
  exact this _ λr O=>hl r (DV O)
 have hlen:((rows.take n).flatten).length=n:=by
  have:∀(l:L_ (L_ V)),(∀r∈l,Uw 1 r)->l.flatten.length=l.length:=by
   intro l
   induction l with|nil=>intro _;rfl|cons r l ih=>intro h;rw[List.flatten_cons,YR,ih λr O=>h r (Yq _ O),(h r Yd).1,DU,Nat.add_comm]
  rw[this _ λr O=>hok r (DV O),Kd];omega
 refine⟨.pointer (X ⟨b,off,n_⟩),?_,.dat (.ro b off _ c hI (λv hv=>?_) (λj hj=>?_) λj v hv=>?_)⟩
 ·have:¬rows.length<n:=by omega
  simp[execOp,ho,he,Instr.arrayAt,run_underlying hu,this]
 ·obtain⟨r,O,hv⟩:=List.mem_flatten.1 hv;exact(hok r (DV O)).2 v hv
 ·rw[hlen]at hj;exact hc j (by omega)
 rw[flat n rows hok,YQ]at hv;split at hv
 ·obtain⟨r,O,hv⟩:=Pg.1 hv;have:=hdat j r O 0 v hv;simpa using this
 cases hv
end
section
variable {P:Program}{C:Xs}{Y:St}{Q:Exit->St->Prop}{ks:L_ Fr}{ops:Array Oper}{rest:L_ Oper}{o:Oper}
def AK.eqNilO {x y:Operand}{T U d e b n:Nat}(hg:o.guard=n_)(ho:o.op=.binOp .eql T x y U)(hd:o.dst=X d)(hn:B_ d C)(hx:Y.opd x=X (.own b n))(hy:Y.opd y=X (.lit (.slice n_ 0 0)))(hT:P.underlying T=X (.slice e))
  (h1:n=0->AK P C Q (.o ops rest) ks (Y.put d (.b t_))) (h2:AK P C Q (.o ops rest) ks (Y.put d (.b false))):AK P C Q (.o ops (o::rest)) ks Y:=by
 intro a w hR;obtain⟨Z,hr⟩:=hR;have hyv:a.eval y=.slice n_ 0 0:=(hr.opd hy).lit_inv;have h:∀p l c,a.eval x=.slice p l c->(execOp a.eval o).run P w=.ok (.value (.bool p.isNone)) w:=λp l c e=>by
  simp[execOp,ho,e,hyv,eqGuard,binOp,run_equal_slice_nil w T _ p l c hT]
 have go:∀{v:Bool} {σ':St},(execOp a.eval o).run P w=.ok (.value (.bool v)) w->σ'=Y.put d (.b v)->AK P C Q (.o ops rest) ks σ'->wpListIn C.F 0 P ops (up C (unw P C Q ks)) (o::rest) a w:=λ{v σ'} e e2 k=>by
  simp only[wpListIn,Region.wanted,hg,if_true];refine⟨λ_ _=>trivial,?_⟩;rw[Qiz e,Oper.uponIn_value];subst e2;refine k _ _ ⟨Z,?_⟩;rw[hd];exact hr.put (Xv hn) (.dat (.b _))
 rcases(hr.opd hx).own_inv with⟨O,h0⟩|⟨B,hB,hc,O⟩
 ·exact go (h n_ 0 0 O) rfl (h1 h0)
 exact go (h _ _ _ O) rfl h2
end
noncomputable abbrev V.Y:V:=.lit (.slice n_ 0 0)
end Go.Vm
