/- A part of the proof; what it holds is told at each theorem. -/
import Derived.Test.YtmhljalpjhdpeaaGreatDoorM1V1
set_option linter.unusedVariables false
set_option linter.unusedSimpArgs false
set_option linter.unusedSectionVars false
set_option linter.deprecated false
namespace Go.Vm
open Go Go.RowKit
inductive Vw (hp:List (Nat×Ob)) (g sc:Bool) (bad:List Nat) (m:Nat->Nat->Prop):V->V->Prop where
 | dat (v:V):v.datA=true->(sc=true->v.scaA=true)->Vw hp g sc bad m v v
 | nil (z:Nat):Vw hp g sc bad m (.lit (.slice none 0 0)) (.sl z [])
 | see (b n z:Nat) (rs us:List (List V)):g=true->sc=false->Qab bad b=false->look hp b=some (.arr z rs)->n<=rs.length->rs.take n=us->Vw hp g sc bad m (.own b n) (.sl z us)
 | own (a b n:Nat):m a b->Vw hp g sc bad m (.own a n) (.own b n)
 | loc (a b i d:Nat):m a b->Vw hp g sc bad m (.loc a i d) (.loc b i d)
 | map (a b:Nat):m a b->Vw hp g sc bad m (.map a) (.map b)
 | agg (cs us:List V):cs.length=us.length->(∀(j:Nat) c u,cs[j]? = some c->us[j]? = some u->Vw hp g sc bad m c u)->Vw hp g sc bad m (.agg cs) (.agg us)
 | tup (cs us:List V):cs.length=us.length->(∀(j:Nat) c u,cs[j]? = some c->us[j]? = some u->Vw hp g sc bad m c u)->Vw hp g sc bad m (.tup cs) (.tup us)
 | ifc (t:TypeId) (v u:V):Vw hp g sc bad m v u->Vw hp g sc bad m (.ifc t v) (.ifc t u)
 | clo (fn:Fn) (vs us cs ds:List V):vs.length=us.length->cs.length=ds.length->(∀(j:Nat) c u,vs[j]? = some c->us[j]? = some u->Vw hp g sc bad m c u)->
   (∀(j:Nat) c u,cs[j]? = some c->ds[j]? = some u->Vw hp g sc bad m c u)->Vw hp g sc bad m (.clo fn vs cs) (.clo fn us ds)
 | forget (v:V):Vw hp g sc bad m v .J
section
variable {hp:List (Nat×Ob)}{g sc:Bool}{bad:List Nat}{m:Nat->Nat->Prop}{φ ψ:Nat->Option Blk}{I J:Nat->Prop}{w w':World}
theorem Vw.sound (hm:∀a b B,m a b->φ a=some B->ψ b=some B)(hI:sc=false->∀k,I k->J k/\w'.heap[k]? = w.heap[k]?)
  (hown:∀b z rs B,g=true->Qab bad b=false->look hp b=some (.arr z rs)->φ b=some B->J B.b/\w'.heap[B.b]? = w.heap[B.b]? /\ Qba I w B z rs)
  {v u:V} (h:Vw hp g sc bad m v u):∀{x:Value},Rep φ I w x v->Rep ψ J w' x u:=by
 induction h with
 | dat v hv hs=>
  intro x hx
  cases sc with
  | true=>exact hx.scaA (hs rfl)
  | false=>exact hx.datA hv (hI rfl)
 | nil z=>intro x hx;rw [hx.lit_inv];exact .dat (.sl0 _ _ _)
 | see b n z rs us hg hsc hbad hb hle hu=>
  intro x hx
  subst hu
  rcases hx.own_inv with⟨rfl,rfl⟩|⟨B,hB,hcap,rfl⟩
  ·simp only [Qsb];exact .dat (.sl0 _ _ _)
  obtain⟨hJ,hw,rfl,hrl,hok,cs,E,h1,h2,h3⟩:=hown b z rs B hg hbad hb hB
  refine .dat (.sl B.b B.off n B.cap B.z _ (fun j=>cs.getD (B.off+j) undef) hJ (by simp;omega) hcap (fun r hr'=>hok r (QeQ hr')) (fun j hj=>?_) (fun i r hi j v hj=>?_))
  ·have hle2:n*B.z<=B.cap*B.z:=Qct _ hcap
   have:B.off+j<cs.size:=by omega
   simp [World.cell?,hw,h1,Array.getD,this]
  have hi':rs[i]? = some r:=by
   rw [Qbx]at hi
   by_cases hin:i<n
   ·rwa [if_pos hin]at hi
   rw [if_neg hin]at hi;simp at hi
  obtain⟨y,hy,hd⟩:=h3 i r hi' j v hj
  have:cs.getD (B.off+(i*B.z+j)) undef=y:=by simp [Qo0,hy]
  rw [this]
  exact hd.mono (hI hsc)
 | own a b n hab=>
  intro x hx
  rcases hx.own_inv with⟨rfl,rfl⟩|⟨B,hB,hcap,rfl⟩
  ·exact .own0 b
  exact .own b n B (hm a b B hab hB) hcap
 | loc a b i d hab=>intro x hx;obtain⟨B,hB,rfl⟩:=hx.loc_inv;exact .loc b i d B (hm a b B hab hB)
 | map a b hab=>intro x hx;obtain⟨B,hB,rfl⟩:=hx.map_inv;exact .map b B (hm a b B hab hB)
 | agg cs us hl _ ih=>
  intro x hx
  obtain⟨xs,rfl,hs,hc⟩:=hx.agg_inv
  refine .agg xs us (by omega) fun j y u hy hu=>?_
  have hj:j<cs.length:=by rw [<-hs];exact(Qhr.1 hy).1
  exact ih j cs[j] u (QG hj) hu (hc j y _ hy (QG hj))
 | tup cs us hl _ ih=>
  intro x hx
  obtain⟨xs,rfl,hs,hc⟩:=hx.tup_inv
  refine .tup xs us (by omega) fun j y u hy hu=>?_
  have hj:j<cs.length:=by rw [<-hs];exact(Qhr.1 hy).1
  exact ih j cs[j] u (QG hj) hu (hc j y _ hy (QG hj))
 | ifc t v u _ ih=>intro x hx;obtain⟨y,rfl,hy⟩:=hx.ifc_inv;exact .ifc t y u (ih hy)
 | clo fn vs us cs ds h1 h2 _ _ ih1 ih2=>
  intro x hx
  obtain⟨xs,ys,rfl,e1,e2,e3,e4⟩:=hx.clo_inv
  refine .clo fn xs ys us ds (by omega) (by omega) (fun j y u hy hu=>?_) (fun j y u hy hu=>?_)
  ·have hj:j<vs.length:=by rw [<-e1];exact(Qhr.1 hy).1
   exact ih1 j vs[j] u (QG hj) hu (e3 j y _ hy (QG hj))
  have hj:j<cs.length:=by rw [<-e2];exact(Qhr.1 hy).1
  exact ih2 j cs[j] u (QG hj) hu (e4 j y _ hy (QG hj))
 | forget v=>intro x hx;exact .dat (.J x)
inductive ObW (hp:List (Nat×Ob)) (g sc:Bool) (bad:List Nat) (m:Nat->Nat->Prop):Ob->Ob->Prop where
 | var (cs us:List V):cs.length=us.length->(∀(j:Nat) c u,cs[j]? = some c->us[j]? = some u->Vw hp g sc bad m c u)->ObW hp g sc bad m (.var cs) (.var us)
 | arr (z:Nat) (rs:List (List V)):(sc=true->∀r∈rs,∀v∈r,v.sca=true)->ObW hp g sc bad m (.arr z rs) (.arr z rs)
 | map (l:List (V×V)):(sc=true->∀p∈l,p.1.sca=true/\p.2.sca=true)->ObW hp g sc bad m (.map l) (.map l)
 | lp (l:Nat) (K:QeS) (cs us:List V) (q:Nat):cs.length=us.length->(∀(j:Nat) c u,cs[j]? = some c->us[j]? = some u->Vw hp g sc bad m c u)->ObW hp g sc bad m (.lp l K cs q) (.lp l K us q)
 | grp (z:Nat) (l:List (V×List (List V))) (lk:Option V):sc=false->ObW hp g sc bad m (.grp z l lk) (.grp z l lk)
 | tbl (A:Nat->Nat) (z:Nat) (rs:List (List V)):sc=false->ObW hp g sc bad m (.tbl A z rs) (.tbl A z rs)
theorem ObW.nil {ob ob':Ob}(h:ObW hp g sc bad m ob ob')(hn:ob.Nil):ob'.Nil:=by cases h<;>first | exact hn | exact hn.elim
theorem ObW.sound (hm:∀a b B,m a b->φ a=some B->ψ b=some B)(hI:sc=false->∀k,I k->J k/\w'.heap[k]? = w.heap[k]?)
  (hown:∀b z rs B,g=true->Qab bad b=false->look hp b=some (.arr z rs)->φ b=some B->J B.b/\w'.heap[B.b]? = w.heap[B.b]? /\ Qba I w B z rs)
  {B:Blk} (hB:∀k,B.has k->w'.heap[k]? = w.heap[k]?) {ob ob':Ob} (h:ObW hp g sc bad m ob ob') (hr:QbN φ I w B ob):QbN ψ J w' B ob':=by
 cases h with
 | var cs us hl hv=>
  obtain⟨xs,E,h1,h2,h0,h3⟩:=hr
  refine⟨xs,E,(hB _ B.self).trans h1,by omega,h0,fun j x u hx hu=>?_⟩
  have hj:j<cs.length:=by rw [<-h2];exact(Qhr.1 hx).1
  exact(hv j cs[j] u (QG hj) hu).sound hm hI hown (h3 j x _ hx (QG hj))
 | arr z rs hs=>
  cases sc with
  | false=>exact Qba.mono (hI rfl) (hB _ B.self) hr
  | true=>
   obtain⟨h1,h2,h3,cs,E,h4,h5,h6⟩:=hr
   exact⟨h1,h2,h3,cs,E,(hB _ B.self).trans h4,h5,fun i r hi j v hj=>let ⟨x,hx,hd⟩:=h6 i r hi j v hj;⟨x,hx,hd.sca (hs rfl r (Qaa hi) v (Qaa hj))⟩⟩
 | map l hs=>
  cases sc with
  | false=>exact QeV.mono (hI rfl) (hB _ B.self) hr
  | true=>
   obtain⟨es,clock,h1,h2,h3,h4,h5,h6⟩:=hr
   exact⟨es,clock,(hB _ B.self).trans h1,h2,h3,h4,fun x hx=>let ⟨p,hp,a,b⟩:=h5 x hx;⟨p,hp,a.sca (hs rfl p hp).1,b.sca (hs rfl p hp).2⟩,fun p hp=>let ⟨x,hx,a,b⟩:=h6 p hp;⟨x,hx,a.sca (hs rfl p hp).1,b.sca (hs rfl p hp).2⟩⟩
 | lp l K cs us q hl hv=>
  obtain⟨tmps,D,rfl,h1,h2,h3,h4⟩:=hr
  refine⟨tmps,D,rfl,h1,(hB _ B.self).trans h2,by omega,fun j x u hx hu=>?_⟩
  have hj:j<cs.length:=by rw [<-h3];exact(Qhr.1 hx).1
  exact(hv j cs[j] u (QG hj) hu).sound hm hI hown (h4 j x _ hx (QG hj))
 | grp z l lk hs=>exact QeW.mono (hI hs) hB hr
 | tbl A z rs hs=>exact QfS.mono (hI hs) hB hr
end
inductive Vws (hp:List (Nat×Ob)) (g sc:Bool) (bad:List Nat) (m:Nat->Nat->Prop):List V->List V->Prop where
 | nil:Vws hp g sc bad m [] []
 | cons {v u:V} {vs us:List V}:Vw hp g sc bad m v u->Vws hp g sc bad m vs us->Vws hp g sc bad m (v::vs) (u::us)
theorem Vws.get {hp:List (Nat×Ob)}{g sc:Bool}{bad:List Nat}{m:Nat->Nat->Prop}:∀{vs us:List V},Vws hp g sc bad m vs us->
  vs.length=us.length/\∀(j:Nat) v u,vs[j]? = some v->us[j]? = some u->Vw hp g sc bad m v u:=by
 intro vs us h
 induction h with
 | nil=>simp
 | cons h1 _ ih=>
  refine⟨by simp [ih.1],fun j v u hv hu=>?_⟩
  cases j with
  | zero=>simp at hv hu;subst hv;subst hu;exact h1
  | succ j=>exact ih.2 j v u hv hu
inductive QiN (hp:List (Nat×Ob)) (g sc:Bool) (bad:List Nat) (m:Nat->Nat->Prop) (src:List (Nat×Ob)):List (Nat×Nat)->List (Nat×Ob)->Prop where
 | nil:QiN hp g sc bad m src [] []
 | cons {d s:Nat} {ob ob':Ob} {ms:List (Nat×Nat)} {r:List (Nat×Ob)}:look src s=some ob->ObW hp g sc bad m ob ob'->QiN hp g sc bad m src ms r->QiN hp g sc bad m src ((d,s)::ms) ((d,ob')::r)
section
variable {hp src:List (Nat×Ob)}{g sc:Bool}{bad:List Nat}{m:Nat->Nat->Prop}
theorem QiN.get {ms:List (Nat×Nat)}{hs:List (Nat×Ob)}(h:QiN hp g sc bad m src ms hs):(∀d ob',look hs d=some ob'->∃s ob,look ms d=some s/\look src s=some ob/\ObW hp g sc bad m ob ob')/\
  ∀d s,look ms d=some s->∃ob',look hs d=some ob':=by
 induction h with
 | nil=>exact⟨fun _ _ h=>(by cases h),fun _ _ h=>(by cases h)⟩
 | @cons d s ob ob' ms r h1 h2 _ ih=>
  refine⟨fun d' o h=>?_,fun d' s' h=>?_⟩
  ·by_cases e:d=d'
   ·subst e;rw [Qv]at h ⊢;cases h;exact⟨s,ob,rfl,h1,h2⟩
   rw [Qr _ _ e]at h ⊢;exact ih.1 d' o h
  by_cases e:d=d'
  ·subst e;rw [Qv]at h ⊢;exact⟨_,rfl⟩
  rw [Qr _ _ e]at h ⊢;exact ih.2 d' s' h
end
def QeB (l:List (Nat×Nat)):List Nat:=l.map Prod.snd
def QgW : List (Nat×Nat)->Bool
 | []=>true
 | (_,s)::r=>!(Qab (QeB r) s)&&QgW r
theorem QtJ : ∀{l:List (Nat×Nat)} {d s:Nat},look l d=some s->Qab (QeB l) s=true:=by
 intro l
 induction l with
 | nil=>intro d s h;cases h
 | cons p l ih=>
  intro d s h
  obtain⟨k,u⟩:=p
  by_cases e:k=d
  ·subst e;rw [Qv]at h;cases h;simp [QeB,Qab]
  rw [Qr _ _ e]at h
  have:=ih h
  simp only [QeB,Qgc,Qab,Qcs]
  exact .inr this
theorem Qvp : ∀{l:List (Nat×Nat)},QgW l=true->∀{a b s:Nat},look l a=some s->look l b=some s->a=b:=by
 intro l
 induction l with
 | nil=>intro _ a b s h;cases h
 | cons p l ih=>
  intro hi a b s h1 h2
  obtain⟨k,u⟩:=p
  rw [QgW,QB]at hi
  by_cases e1:k=a<;>by_cases e2:k=b
  ·rw [<-e1,<-e2]
  ·subst e1;rw [Qv]at h1;cases h1;rw [Qr _ _ e2]at h2
   rw [QtJ h2]at hi;simp at hi
  ·subst e2;rw [Qv]at h2;cases h2;rw [Qr _ _ e1]at h1
   rw [QtJ h1]at hi;simp at hi
  rw [Qr _ _ e1]at h1;rw [Qr _ _ e2]at h2;exact ih hi.2 h1 h2
theorem QyQ : ∀{l:List (Nat×Nat)} {s:Nat},Qab (QeB l) s=true->∃d,(d,s)∈l:=by
 intro l
 induction l with
 | nil=>intro s h;cases h
 | cons p l ih=>
  intro s h
  simp only [QeB,Qgc,Qab,Qcs]at h
  rcases h with h | h
  ·exact⟨p.1,by rw [<-QaL h];exact Qbz⟩
  obtain⟨d,hd⟩:=ih h;exact⟨d,Qb1 _ hd⟩
def St.killL (σ:St):List Nat->St
 | []=>σ
 | b::r=>(σ.kill b).killL r
def Qra (φ:Nat->Option Blk):List Nat->Nat->Option Blk
 | []=>φ
 | b::r=>Qra (del φ b) r
theorem QfG : ∀{ds:List Nat} {φ:Nat->Option Blk} {k:Nat} {B:Blk},Qra φ ds k=some B->Qab ds k=false/\φ k=some B:=by
 intro ds
 induction ds with
 | nil=>intro φ k B h;exact⟨rfl,h⟩
 | cons b ds ih=>
  intro φ k B h
  obtain⟨h1,h2⟩:=ih h
  obtain⟨h3,h4⟩:=Qb3 h2
  refine⟨?_,h4⟩
  simp only [Qab,QcV]
  refine⟨?_,h1⟩
  cases hb:Nat.beq b k with
  | false=>rfl
  | true=>exact absurd (QaL hb).symm h3
theorem Qsl : ∀{ds:List Nat} {φ:Nat->Option Blk} {k:Nat},Qab ds k=false->Qra φ ds k=φ k:=by
 intro ds
 induction ds with
 | nil=>intro φ k h;rfl
 | cons b ds ih=>
  intro φ k h
  simp only [Qab,QcV]at h
  rw [Qra,ih h.2,Qec (fun e=>by subst e;simp at h)]
theorem Qys : ∀(ds:List Nat) (σ:St) (t:Nat) (v:V),look (σ.killL ds).fr t=some v->∃v',look σ.fr t=some v'/\∀φ I w x,Rep φ I w x v'->Rep (Qra φ ds) I w x v:=by
 intro ds
 induction ds with
 | nil=>intro σ t v h;exact⟨v,h,fun _ _ _ _ h=>h⟩
 | cons b ds ih=>
  intro σ t v h
  obtain⟨v1,h1,h2⟩:=ih (σ.kill b) t v h
  obtain⟨v2,h3,rfl⟩:=Qnn _ _ _ h1
  exact⟨v2,h3,fun φ I w x hx=>h2 _ _ _ _ (hx.kill (fun o B ho hB=>by rw [Qec ho];exact hB) fun k hk=>⟨hk,rfl⟩)⟩
theorem Qs1 : ∀(ds:List Nat) (σ:St) (o:Nat) (ob:Ob),look (σ.killL ds).hp o=some ob->Qab ds o=false/\∃ob',look σ.hp o=some ob'/\
  (∀φ I w B,QbN φ I w B ob'->QbN (Qra φ ds) I w B ob)/\(ob'.Nil->ob.Nil):=by
 intro ds
 induction ds with
 | nil=>intro σ t v h;exact⟨rfl,v,h,fun _ _ _ _ h=>h,fun h=>h⟩
 | cons b ds ih=>
  intro σ t v h
  obtain⟨h0,v1,h1,h2,h2'⟩:=ih (σ.kill b) t v h
  obtain⟨hne,v2,h3,rfl⟩:=QcS _ _ _ h1
  refine⟨?_,v2,h3,fun φ I w B hB=>h2 _ _ _ _ (hB.kill (fun o B ho hB=>by rw [Qec ho];exact hB) (fun k hk=>⟨hk,rfl⟩) fun _ _=>rfl),fun e=>h2' e.kill⟩
  simp only [Qab,QcV]
  refine⟨?_,h0⟩
  cases hb:Nat.beq b t with
  | false=>rfl
  | true=>exact absurd (QaL hb).symm hne
theorem QwA : ∀(ds:List Nat) (σ:St) (o:Nat) (ob:Ob),Qab ds o=false->look σ.hp o=some ob->∃ob',look (σ.killL ds).hp o=some ob':=by
 intro ds
 induction ds with
 | nil=>intro σ o ob _ h;exact⟨ob,h⟩
 | cons b ds ih=>
  intro σ o ob hm h
  simp only [Qab,QcV]at hm
  exact ih (σ.kill b) o _ hm.2 (QfT _ _ _ (fun e=>by subst e;simp at hm) h)
def QyG : Option Ob->Bool
 | some _=>true
 | none=>false
theorem Qx7 {x:Option Ob}(h:QyG x=true):∃ob,x=some ob:=by
 cases x with
 | none=>cases h
 | some ob=>exact⟨ob,rfl⟩
def QtK (x:Option Nat)(n:Nat):Bool:=match x with
 | some k=>Nat.beq k n
 | none=>false
theorem Qsm {x:Option Nat}{n:Nat}(h:QtK x n=true):x=some n:=by
 cases x with
 | none=>cases h
 | some k=>rw [QaL h]
def QcL (σ:St)(M N:List (Nat×Nat))(dead:List Nat)(outs:List (Nat×Ob)):Bool:=
 QgW M&&QgW N&&M.all (fun p=>Nat.ble 614 p.1&&(Qab dead p.2||(Nat.ble 616 p.1&&QtK (look N p.2) p.1&&QyG (look outs p.1)))) &&
 N.all (fun p=>(Qab dead p.1||Qab (QeB M) p.1||(look σ.hp p.1).isNone)&&(Nat.ble 614 p.1||!(Nat.ble 614 p.2)||M.all (fun q=>!(Nat.ble 614 q.2)||(Nat.ble 616 q.1&&QyG (look outs q.1)&&QtK (look N q.2) q.1))) &&
  (!(Nat.ble 616 p.1)||(Nat.ble 616 p.2&&QtK (look M p.2) p.1)))
structure Names (σ:St) (M N:List (Nat×Nat)) (dead:List Nat) (outs:List (Nat×Ob)):Prop where
 injM:∀{a b s:Nat},look M a=some s->look M b=some s->a=b
 injN:∀{a b s:Nat},look N a=some s->look N b=some s->a=b
 param:∀{c a:Nat},look M c=some a->614<=c
 keep:∀{c a:Nat},look M c=some a->Qab dead a=true\/(616<=c/\look N a=some c/\∃ob,look outs c=some ob)
 fresh:∀{a c:Nat},look N a=some c->Qab dead a=true\/(∃c',look M c'=some a)\/look σ.hp a=none
 low:∀{a c:Nat},look N a=some c->a<614->c<614\/∀{c' a':Nat},look M c'=some a'->a'<614\/(616<=c'/\(∃ob,look outs c'=some ob)/\look N a'=some c')
 stay:∀{a c:Nat},look N a=some c->616<=a->616<=c/\look M c=some a
theorem Qfg {a n:Nat}(h:(!(Nat.ble n a))=true):a<n:=by
 rcases QeR a n with h1 | h1
 ·exact h1
 rw [Qqo h1]at h;cases h
theorem Qbc : ∀{l:List (Nat×Nat)},QgW l=true->∀{d s:Nat},(d,s)∈l->(l.map Prod.fst).Nodup->look l d=some s:=by
 intro l
 induction l with
 | nil=>intro _ d s h;cases h
 | cons p l ih=>
  intro hi d s h hn
  obtain⟨k,u⟩:=p
  rw [QgW,QB]at hi
  rw [Qgc,Qlp]at hn
  rcases QaK.1 h with h | h
  ·cases h;exact Qv _ _ _
  have hk:k≠d:=fun e=>hn.1 (by rw [e];exact QaE.2 ⟨(d,s),h,rfl⟩)
  rw [Qr _ _ hk];exact ih hi.2 h hn.2
theorem Names.of {σ:St}{M N:List (Nat×Nat)}{dead:List Nat}{outs:List (Nat×Ob)}(h:QcL σ M N dead outs=true)(hnd:(M.map Prod.fst).Nodup):Names σ M N dead outs:=by
 simp only [QcL,QB,Qad]at h
 obtain⟨⟨⟨h1,h2⟩,h3⟩,h4⟩:=h
 have pM:∀{c a:Nat},look M c=some a->Nat.ble 614 c=true/\(Qab dead a=true\/(Nat.ble 616 c=true/\QtK (look N a) c=true)/\QyG (look outs c)=true):=fun hl=>by
  have:=h3 _ (Qbi hl)
  simpa only [Qcs,QB] using this
 have pN:=fun {a c:Nat} (hl:look N a=some c)=>h4 _ (Qbi hl)
 refine⟨Qvp h1,Qvp h2,fun hl=>QbV (pM hl).1,fun hl=>?_,fun hl=>?_,fun hl hlt=>?_,fun hl hge=>?_⟩
 ·rcases(pM hl).2 with h | ⟨⟨a1,a2⟩,a3⟩
  ·exact .inl h
  exact .inr ⟨QbV a1,Qsm a2,Qx7 a3⟩
 ·have:=(pN hl).1.1
  simp only [Qcs]at this
  rcases this with(h | h) | h
  ·exact .inl h
  ·obtain⟨c',hc'⟩:=QyQ h
   exact .inr (.inl ⟨c',Qbc h1 hc' hnd⟩)
  exact .inr (.inr (by simpa using h))
 ·have:=(pN hl).1.2
  simp only [Qcs]at this
  rcases this with(h | h) | h
  ·exact absurd (QbV h) (by omega)
  ·exact .inl (Qfg h)
  refine .inr fun {c' a'} hl'=>?_
  rw [Qad]at h
  have:=h _ (Qbi hl')
  rw [Qcs,QB,QB]at this
  rcases this with h | ⟨⟨h1,h2⟩,h3⟩
  ·exact .inl (Qfg h)
  exact .inr ⟨QbV h1,Qx7 h2,Qsm h3⟩
 have:=(pN hl).2
 simp only [Qcs,QB]at this
 rcases this with h | h
 ·exact absurd (Qfg h) (by omega)
 exact⟨QbV h.1,Qsm h.2⟩
def QuM (C:Ctx)(φ:Nat->Option Blk)(w:World)(g:Bool)(bad:List Nat)(k:Nat):Prop:=Imm C φ w k\/(g=true/\∃o B,φ o=some B/\B.has k/\Qab bad o=false)
section
variable {P:Program}{C:Ctx}{φ:Nat->Option Blk}{σ:St}{a:Act}{w:World}{o:Oper}
theorem Ins.of_vals {g:Bool}{M:List (Nat×Nat)}{hsC:List (Nat×Ob)}{vs us:List V}{vals:List Value}(hr:RR C φ σ a w)(h1:vals.length=vs.length)
  (h2:∀(j:Nat) x v,vals[j]? = some x->vs[j]? = some v->Rep φ (Imm C φ w) w x v)
  (hinj:∀{a b s:Nat},look M a=some s->look M b=some s->a=b) (hpar:∀{c a:Nat},look M c=some a->614<=c)
  (hv:Vws σ.hp g false (QeB M) (fun a b=>look M b=some a) vs us) (hobs:QiN σ.hp g false (QeB M) (fun a b=>look M b=some a) σ.hp M hsC):
  Ins (QuM C φ w g (QeB M)) (fun c=>(look M c).bind φ) w vals.toArray us hsC:=by
 obtain⟨h3,h4⟩:=hv.get
 obtain⟨h5,h6⟩:=hobs.get
 have hm:∀a b B,look M b=some a->φ a=some B->(look M b).bind φ=some B:=fun a b B h1 h2=>by rw [h1];exact h2
 have hI:false=false->∀k,Imm C φ w k->QuM C φ w g (QeB M) k/\w.heap[k]? = w.heap[k]? := fun _ k hk=>⟨.inl hk,rfl⟩
 have hown:∀b z rs B,g=true->Qab (QeB M) b=false->look σ.hp b=some (.arr z rs)->φ b=some B->QuM C φ w g (QeB M) B.b/\w.heap[B.b]? = w.heap[B.b]? /\ Qba (Imm C φ w) w B z rs:=
  fun b z rs B hg hbad hb hB=>⟨.inr ⟨hg,b,B,hB,B.self,hbad⟩,rfl,hr.block hB hb⟩
 have inv:∀{c:Nat} {B:Blk},(look M c).bind φ=some B->∃s,look M c=some s/\φ s=some B:=fun h=>by
  obtain⟨s,h1,h2⟩:=QoJ.1 h;exact⟨s,h1,h2⟩
 refine⟨fun k hk=>?_,fun c c' B B' k e1 e2 b1 b2=>?_,fun c B e=>?_,by simp;omega,fun j x u hx hu=>?_,fun c ob e=>?_⟩
 ·rcases hk with hk | ⟨_,o,B,hB,hk,_⟩
  ·exact hk.1
  exact(hr.lt o B k hB hk).1
 ·obtain⟨s,e3,e4⟩:=inv e1
  obtain⟨s',e5,e6⟩:=inv e2
  have:=hr.inj s s' B B' k e4 e6 b1 b2
  subst this
  exact hinj e3 e5
 ·obtain⟨s,e3,e4⟩:=inv e
  refine⟨hpar e3,fun k hk=>⟨(hr.lt s B k e4 hk).1,fun hS=>?_⟩,h6 c s e3⟩
  rcases hS with hS | ⟨_,o,B',hB',hk',hbad⟩
  ·exact hS.2.2 s B e4 hk
  have:=hr.inj o s B' B k hB' e4 hk' hk
  subst this
  rw [QtJ e3]at hbad;cases hbad
 ·simp only [QiZ]at hx
  have hj:j<vs.length:=by rw [<-h1];exact(QT.1 hx).1
  exact(h4 j vs[j] u (QG hj) hu).sound hm hI hown (h2 j x _ hx (QG hj))
 obtain⟨s,ob0,e1,e2,e3⟩:=h5 c ob e
 rcases hr.heap s ob0 e2 with⟨B,hB,hrep⟩|⟨hn,hz⟩
 ·exact .inl ⟨B,by rw [e1];exact hB,e3.sound hm hI hown (fun _ _=>rfl) hrep⟩
 exact .inr ⟨by rw [e1];exact hn,e3.nil hz⟩
def QjM (φ:Nat->Option Blk)(M N:List (Nat×Nat))(dead:List Nat)(φ':Nat->Option Blk):Nat->Option Blk:=fun o=>match look N o with
 | some c=>φ' c
 | none=>Qra φ dead o
def St.after (σ:St)(dead:List Nat)(hsN:List (Nat×Ob)):St:=⟨(σ.killL dead).fr,hsN++(σ.killL dead).hp⟩
theorem QfH {α:Type}:∀(l r:List (Nat×α)) (t:Nat),look (l++r) t=(look l t).orElse fun _=>look r t:=by
 intro l
 induction l with
 | nil=>intro r t;rfl
 | cons p l ih=>
  intro r t
  obtain⟨k,u⟩:=p
  by_cases e:k=t
  ·subst e;rw [Qr7,Qv,Qv];rfl
  rw [Qr7,Qr _ _ e,Qr _ _ e];exact ih r t
theorem RR.after {g:Bool}{M N:List (Nat×Nat)}{dead:List Nat}{outs hsN hs':List (Nat×Ob)}{φ':Nat->Option Blk}{w':World}{x:Value}{v:V}(hr:RR C φ σ a w)(hn:Names σ M N dead outs)
  (ho:Outs (QuM C φ w g (QeB M)) (fun c=>(look M c).bind φ) w φ' w' x v hs') (hso:∀c ob,look outs c=some ob->look hs' c=some ob)
  (hM:∀c s,look M c=some s->∃ob,look σ.hp s=some ob) (hback:QiN [] false g [] (fun c b=>look N b=some c) outs N hsN):RR C (QjM φ M N dead φ') (σ.after dead hsN) a w'/\∀{r':V},Vw [] false g [] (fun c b=>look N b=some c) v r'->
   Rep (QjM φ M N dead φ') (Imm C (QjM φ M N dead φ') w') w' x r':=by
 have inv:∀{c:Nat} {B:Blk},(look M c).bind φ=some B->∃s,look M c=some s/\φ s=some B:=fun h=>by
  obtain⟨s,h1,h2⟩:=QoJ.1 h;exact⟨s,h1,h2⟩
 have jN:∀{b c:Nat},look N b=some c->QjM φ M N dead φ' b=φ' c:=fun h=>by simp only [QjM,h]
 have jO:∀{b:Nat},look N b=none->QjM φ M N dead φ' b=Qra φ dead b:=fun h=>by simp only [QjM,h]
 obtain⟨hb1,hb2⟩:=hback.get
 have old:∀{c B k},φ' c=some B->B.has k->k<w.heap.size->∃c' s B',look M c'=some s/\φ s=some B'/\B'.has k:=fun hB hk hlt=>by
  obtain⟨c',B',h1,h2⟩:=(ho.lt _ _ _ hB hk).2 hlt
  obtain⟨s,h3,h4⟩:=inv h1
  exact⟨c',s,B',h3,h4,h2⟩
 have keep:∀o B,Qra φ dead o=some B->QjM φ M N dead φ' o=some B:=fun o B hB=>by
  cases hl:look N o with
  | none=>rw [jO hl];exact hB
  | some c=>
   rw [jN hl]
   obtain⟨h1,h2⟩:=QfG hB
   rcases hn.fresh hl with h | ⟨c',h⟩|h
   ·rw [h]at h1;cases h1
   ·rcases hn.keep h with h3 | ⟨h3,h4,ob5,h5⟩
    ·rw [h3]at h1;cases h1
    rw [hl]at h4;cases h4
    exact ho.stay.2 c ob5 B h3 (hso _ _ h5) (by show(look M c).bind φ=some B;rw [h];exact h2)
   rw [hr.none_of_look h]at h2;cases h2
 have untouched:∀k,k<w.heap.size->(∀s B,φ s=some B->B.has k->∀c,look M c≠some s)->w'.heap[k]? = w.heap[k]? := fun k hlt hne=>
  ho.kept k hlt fun c B hB hk=>by obtain⟨s,h1,h2⟩:=inv hB;exact hne s B h2 hk c h1
 have hI:∀k,Imm C φ w k->Imm C (QjM φ M N dead φ') w' k/\w'.heap[k]? = w.heap[k]? := fun k hk=>by
  refine⟨⟨Qg8 hk.1 ho.size,hk.2.1,fun o B hB hh=>?_⟩,untouched k hk.1 fun s B hB hh=>absurd hh (hk.2.2 s B hB)⟩
  cases hl:look N o with
  | none=>rw [jO hl]at hB;exact hk.2.2 o B (QfG hB).2 hh
  | some c=>
   rw [jN hl]at hB
   obtain⟨c',s,B',_,h2,h3⟩:=old hB hh hk.1
   exact hk.2.2 s B' h2 h3
 have hA:g=false->∀k,Aft (QuM C φ w g (QeB M)) φ' w w' k->Imm C (QjM φ M N dead φ') w' k/\w'.heap[k]? = w'.heap[k]? := fun hg k hk=>by
  obtain⟨h1,h2,h3⟩:=hk
  by_cases hlt:k<w.heap.size
  ·rcases h2 hlt with h | ⟨h,_⟩
   ·exact⟨(hI k h).1,rfl⟩
   rw [hg]at h;cases h
  refine⟨⟨h1,fun h=>absurd hr.size (by omega),fun o B hB hh=>?_⟩,rfl⟩
  cases hl:look N o with
  | none=>rw [jO hl]at hB;have:=(hr.lt o B k (QfG hB).2 hh).1;omega
  | some c=>rw [jN hl]at hB;exact h3 c B hB hh
 have hmB:∀c b B,look N b=some c->φ' c=some B->QjM φ M N dead φ' b=some B:=fun c b B h1 h2=>by rw [jN h1];exact h2
 have hownB:∀b z rs B,false=true->Qab [] b=false->look ([]:List (Nat×Ob)) b=some (.arr z rs)->φ' b=some B->
   Imm C (QjM φ M N dead φ') w' B.b/\w'.heap[B.b]? = w'.heap[B.b]? /\ Qba (Aft (QuM C φ w g (QeB M)) φ' w w') w' B z rs:=fun _ _ _ _ h=>by cases h
 have stay2:∀o ob B,616<=o->look (σ.after dead hsN).hp o=some ob->C.φ0 o=some B->QjM φ M N dead φ' o=some B:=fun o ob B hge hob hB=>by
  rw [St.after,QfH]at hob
  cases hx:look hsN o with
  | some y=>
   obtain⟨c,ob1,h1,h2,h3⟩:=hb1 o _ hx
   obtain⟨h4,h5⟩:=hn.stay h1 hge
   obtain⟨ob2,h6⟩:=hM _ _ h5
   have h7:=hr.stay.2 o ob2 B hge h6 hB
   rw [jN h1]
   exact ho.stay.2 c ob1 B h4 (hso _ _ h2) (by show(look M c).bind φ=some B;rw [h5];exact h7)
  | none=>
   rw [hx]at hob
   have l:look N o=none:=by
    cases l:look N o with
    | none=>rfl
    | some c=>obtain⟨ob',h'⟩:=hb2 o c l;rw [hx]at h';cases h'
   obtain⟨h1,ob',h2,_,_⟩:=Qs1 dead σ o ob hob
   rw [jO l,Qsl h1];exact hr.stay.2 o ob' B hge h2 hB
 refine⟨⟨ho.os.trans hr.os,ho.tape.trans hr.tape,ho.output.trans hr.output,QbM hr.size ho.size,fun k h1 h2=>?_,fun o1 o2 B1 B2 k e1 e2 b1 b2=>?_,fun o B hB=>?_,fun o B k hB hk=>?_,fun o B k hB hk hlt=>?_,
  ⟨fun o B hge hB=>?_,stay2⟩,hr.tmps,hr.defers.mono hI,fun t u hu=>?_,fun o ob hob=>?_⟩,fun hv=>hv.sound hmB hA hownB ho.rep⟩
 ·rw [untouched k (Qg8 h1 hr.size) fun s B hB hh=>absurd ((hr.lt s B k hB hh).2 h1) h2]
  exact hr.kept k h1 h2
 ·cases l1:look N o1 with
  | some c1=>
   rw [jN l1]at e1
   cases l2:look N o2 with
   | some c2=>
    rw [jN l2]at e2
    have:=ho.inj c1 c2 B1 B2 k e1 e2 b1 b2
    subst this
    exact hn.injN l1 l2
   | none=>
    rw [jO l2]at e2
    obtain⟨g1,g2⟩:=QfG e2
    obtain⟨c',s,B',h1,h2,h3⟩:=old e1 b1 (hr.lt o2 B2 k g2 b2).1
    have:=hr.inj s o2 B' B2 k h2 g2 h3 b2
    subst this
    rcases hn.keep h1 with h | ⟨_,h,_⟩
    ·rw [h]at g1;cases g1
    rw [h]at l2;cases l2
  | none=>
   rw [jO l1]at e1
   obtain⟨g1,g2⟩:=QfG e1
   cases l2:look N o2 with
   | some c2=>
    rw [jN l2]at e2
    obtain⟨c',s,B',h1,h2,h3⟩:=old e2 b2 (hr.lt o1 B1 k g2 b1).1
    have:=hr.inj s o1 B' B1 k h2 g2 h3 b1
    subst this
    rcases hn.keep h1 with h | ⟨_,h,_⟩
    ·rw [h]at g1;cases g1
    rw [h]at l1;cases l1
   | none=>
    rw [jO l2]at e2
    exact hr.inj o1 o2 B1 B2 k g2 (QfG e2).2 b1 b2
 ·cases l:look N o with
  | some c=>
   obtain⟨ob,hob⟩:=hb2 o c l
   exact⟨ob,by rw [St.after,QfH,hob];rfl⟩
  | none=>
   rw [jO l]at hB
   obtain⟨h1,h2⟩:=QfG hB
   obtain⟨ob,hob⟩:=hr.dom o B h2
   obtain⟨ob',hob'⟩:=QwA dead σ o ob h1 hob
   rw [St.after,QfH]
   cases hx:look hsN o with
   | some y=>exact⟨y,rfl⟩
   | none=>exact⟨ob',hob'⟩
 ·cases l:look N o with
  | some c=>
   rw [jN l]at hB
   refine⟨(ho.lt c B k hB hk).1,fun hlt=>?_⟩
   obtain⟨c',s,B',h1,h2,h3⟩:=old hB hk (Qg8 hlt hr.size)
   exact(hr.lt s B' k h2 h3).2 hlt
  | none=>
   rw [jO l]at hB
   have:=hr.lt o B k (QfG hB).2 hk
   exact⟨Qg8 this.1 ho.size,this.2⟩
 ·cases l:look N o with
  | some c=>
   rw [jN l]at hB
   rcases QeR k w.heap.size with hlt' | hge
   ·obtain⟨c',s,B',h1,h2,h3⟩:=old hB hk hlt'
    rcases hn.low l hlt with h | h
    ·have:=ho.new c B k hB hk h;omega
    rcases h h1 with h | ⟨hc',⟨ob',hob'⟩,hN'⟩
    ·exact hr.new s B' k h2 h3 h
    have h4:=ho.stay.2 c' ob' B' hc' (hso _ _ hob') (by show(look M c').bind φ=some B';rw [h1];exact h2)
    have h5:=ho.inj c c' B B' k hB h4 hk h3
    subst h5
    have:=hn.injN l hN'
    subst this
    exact hr.new _ B' k h2 h3 hlt
   exact QbM hr.size hge
  | none=>rw [jO l]at hB;exact hr.new o B k (QfG hB).2 hk hlt
 ·cases l:look N o with
  | some c=>
   rw [jN l]at hB
   obtain⟨h1,h2⟩:=hn.stay l hge
   obtain⟨s,h3,h4⟩:=inv (ho.stay.1 c B h1 hB)
   rw [h2]at h3;cases h3
   exact hr.stay.1 o B hge h4
  | none=>rw [jO l]at hB;exact hr.stay.1 o B hge (QfG hB).2
 ·obtain⟨u',hu',hk⟩:=Qys dead σ t u hu
  obtain⟨y,hy,hrep⟩:=hr.frame t u' hu'
  exact⟨y,hy,(hk _ _ _ _ hrep).mono keep hI⟩
 rw [St.after,QfH]at hob
 cases hx:look hsN o with
 | some y=>
  rw [hx]at hob;cases hob
  obtain⟨c,ob1,h1,h2,h3⟩:=hb1 o _ hx
  rcases ho.heap c ob1 (hso _ _ h2)with⟨B,hB,hrep⟩|⟨hnone,hz⟩
  ·exact .inl ⟨B,hmB c o B h1 hB,h3.sound hmB hA hownB (fun _ _=>rfl) hrep⟩
  exact .inr ⟨by rw [jN h1];exact hnone,h3.nil hz⟩
 | none=>
  rw [hx]at hob
  have l:look N o=none:=by
   cases l:look N o with
   | none=>rfl
   | some c=>obtain⟨ob',h'⟩:=hb2 o c l;rw [hx]at h';cases h'
  obtain⟨h1,ob',h2,h3,h4⟩:=Qs1 dead σ o ob hob
  rcases hr.heap o ob' h2 with⟨B,hB,hrep⟩|⟨hnone,hz⟩
  ·have hBd:Qra φ dead o=some B:=by rw [Qsl h1];exact hB
   refine .inl ⟨B,keep o B hBd,(h3 _ _ _ _ hrep).mono keep hI fun k hk=>untouched k (hr.lt o B k hB hk).1 fun s B' hB' hk' c hc=>?_⟩
   have:=hr.inj s o B' B k hB' hB hk' hk
   subst this
   rcases hn.keep hc with h | ⟨_,h,_⟩
   ·rw [h]at h1;cases h1
   rw [h]at l;cases l
  exact .inr ⟨by rw [jO l,Qsl h1];exact hnone,h4 hz⟩
end
end Go.Vm
namespace Go.Vm
open Go Go.RowKit
section
variable {P:Program}{C:Ctx}{σ:St}{o:Oper}
theorem Qbb.fn {f:FuncId}{ags:Array Operand}{ts:Array TypeId}{vs:List V}(ho:o.op=.call { callee:=.value (.func f),args:=ags,argTypes:=ts })(he:Qq8 P f=true)(ha:σ.opsV ags.toList=some vs):
  Qbb P C o σ f vs:=by
 intro φ a w hr
 obtain⟨h1,h2⟩:=hr.opsV _ _ ha
 refine⟨ags.toList.map a.eval,?_,by simpa using h1,fun j x v hx hv=>?_⟩
 ·have e2:ags.map a.eval=(ags.toList.map a.eval).toArray:=by apply Array.ext';simp
  simp only [execOp,ho,resolve,Sem.run_bind,show a.eval (.func f)=.func (.func f) #[] #[]from rfl,Deferred.ofValue,Sem.run_pure,Result.andThen_ok,invoke,Array.empty_append,Array.append_empty,e2]
  exact Qhs (P:=P) (w:=w) (f:=f) (args:=(ags.toList.map a.eval).toArray) he
 simp only [Qak,Qas]at hx
 obtain⟨y,hy,rfl⟩:=hx
 exact h2 j y v hy hv
theorem Qbb.clo {f:FuncId}{x:Operand}{ags:Array Operand}{ts:Array TypeId}{vs fs cs:List V}(ho:o.op=.call { callee:=.value x,args:=ags,argTypes:=ts })(hx:σ.opd x=some (.clo (.func f) fs cs))
  (he:Qq8 P f=true) (ha:σ.opsV ags.toList=some vs):Qbb P C o σ f (fs++(vs++cs)):=by
 intro φ a w hr
 obtain⟨h1,h2⟩:=hr.opsV _ _ ha
 obtain⟨xs,ys,hev,e1,e2,e3,e4⟩:=(hr.opd hx).clo_inv
 have h1':ags.size=vs.length:=by simpa using h1
 refine⟨xs.toList++(ags.toList.map a.eval++ys.toList),?_,by simp;omega,fun j y v hy hv=>?_⟩
 ·have e5:(xs++ags.map a.eval)++ys=(xs.toList++(ags.toList.map a.eval++ys.toList)).toArray:=by apply Array.ext';simp
  simp only [execOp,ho,resolve,Sem.run_bind,hev,Deferred.ofValue,Sem.run_pure,Result.andThen_ok,invoke,e5]
  exact Qhs (P:=P) (w:=w) (f:=f) (args:=_) he
 by_cases c1:j<fs.length
 ·rw [Qbf (by simpa using (by omega:j<xs.size))]at hy
  rw [Qbf c1]at hv
  exact e3 j y v (by simpa using hy) hv
 rw [Qcf (by simp;omega)]at hy
 rw [Qcf (by omega)]at hv
 simp only [Qxq]at hy
 rw [e1]at hy
 by_cases c2:j-fs.length<vs.length
 ·rw [Qbf (by simp;simp at h1;omega)]at hy
  rw [Qbf c2]at hv
  simp only [Qak,Qas]at hy
  obtain⟨z,hz,rfl⟩:=hy
  exact h2 _ z v hz hv
 have hl:(ags.toList.map a.eval).length=vs.length:=by simpa using h1
 rw [Qcf (by omega),hl]at hy
 rw [Qcf (by omega)]at hv
 exact e4 _ y v (by simpa using hy) hv
def Qmg (P:Program)(t:TypeId)(name:String):Option (FuncId×Bool):=match P.info? t with
 | some i=>match i.methods.find? (·.name==name)with
  | some m=>bif m.path.isEmpty then m.func else none
  | none=>none
 | none=>none
def QyR (P:Program)(t:TypeId):Bool:=match P.underlying t with
 | some (.pointer _)=>true
 | _=>false
def QtL (P:Program)(t:TypeId):Bool:=match P.underlying t with
 | some (.pointer _)=>false
 | some _=>true
 | none=>false
theorem Qsn {t:TypeId}{name:String}{f:FuncId}{p:Bool}{n:Nat}{v r:Value}{w:World}(h:Qmg P t name=some (f,p))
  (hr:(receiverAt t (.val v) p (some ((name.splitOn ".").getLastD name))).run P w=.ok r w):(method (n+1) t v name).run P w=.ok (f,r) w:=by
 unfold Qmg at h
 split at h
 ·rename_i i hi
  split at h
  ·rename_i m hm
   cases hp:m.path.isEmpty with
   | false=>rw [hp]at h;cases h
   | true=>
    rw [hp]at h
    simp only [cond_true]at h
    have hpl:m.path.toList=[]:=by simpa using hp
    simp only [method,typeInfo,Sem.run_bind,Sem.run_pure,run_program,Result.andThen_ok,hi,hm,hpl,follow,h,hp,if_true,hr]
  cases h
 cases h
theorem Qxu {t:TypeId}{v:Value}{wr:Option String}{w:World}(h:QyR P t=true):(receiverAt t (.val v) true wr).run P w=.ok v w:=by
 unfold QyR at h
 split at h
 ·rename_i e he
  simp [receiverAt,run_underlying he,Place.get]
 cases h
theorem Qxv {t:TypeId}{v:Value}{wr:Option String}{w:World}(h:QtL P t=true):(receiverAt t (.val v) false wr).run P w=.ok v w:=by
 unfold QtL at h
 split at h
 ·cases h
 ·rename_i d hd he
  cases d<;>first | exact(hd _ rfl).elim | simp [receiverAt,run_underlying he,Place.get]
 cases h
def QwB (P:Program)(t e:TypeId):Bool:=match P.underlying t with
 | some (.pointer e')=>Nat.beq e' e
 | _=>false
theorem QwC {t e:TypeId}{p:Addr}{m:String}{w:World}{y:Value}(h:QwB P t e=true)(hl:(loadVar e p).run P w=.ok y w):(receiverAt t (.val (.pointer (some p))) false (some m)).run P w=.ok y w:=by
 unfold QwB at h
 split at h
 ·rename_i e' he
  have:=QaL h
  subst this
  have hs:(Builtin.ssaWrapNilChk_ #[t] t #[.pointer (some p),strVal "",strVal m]).run P w=.ok (.pointer (some p)) w:=rfl
  simp [receiverAt,run_underlying he,Place.get,hs,asAddr,hl]
 cases h
theorem Qbb.meth {f:FuncId}{x:Operand}{name:String}{ags:Array Operand}{ts:Array TypeId}{t:TypeId}{vs:List V}{u r:V}(ho:o.op=.call { callee:=.invoke x name,args:=ags,argTypes:=ts })
  (hx:σ.opd x=some (.ifc t u)) (hm:(Qmg P t name=some (f,true)/\QyR P t=true)\/(Qmg P t name=some (f,false)/\QtL P t=true)) (he:Qq8 P f=true) (ha:σ.opsV ags.toList=some vs):
  Qbb P C o σ f (u::vs):=by
 intro φ a w hr
 obtain⟨h1,h2⟩:=hr.opsV _ _ ha
 obtain⟨y,hev,hy⟩:=(hr.opd hx).ifc_inv
 refine⟨y::ags.toList.map a.eval,?_,by simpa using h1,fun j z v hz hv=>?_⟩
 ·have hmeth:(method (P.types.size+Made.depth) t y name).run P w=.ok (f,y) w:=by
   have hd:P.types.size+Made.depth=(P.types.size+(Made.depth-1))+1:=by have:Made.depth=(Made.depth-1)+1:=rfl;omega
   rw [hd]
   rcases hm with⟨h,hp⟩|⟨h,hp⟩
   ·exact Qsn h (Qxu hp)
   exact Qsn h (Qxv hp)
  have e2:#[y]++ags.map a.eval=(y::ags.toList.map a.eval).toArray:=by apply Array.ext';simp
  have e3:(#[Value.iface t y]++ags.map a.eval)[0]? = some (.iface t y):=by rw [Array.getElem?_append_left (by simp)];rfl
  have e4:(#[Value.iface t y]++ags.map a.eval).extract 1 (#[Value.iface t y]++ags.map a.eval).size=ags.map a.eval:=by
   apply Array.ext';simp [QgB]
  simp only [execOp,ho,resolve,Sem.run_bind,hev,Sem.run_pure,Result.andThen_ok,invoke,e3,e4,callMethod,run_program,hmeth,e2]
  exact Qhs (P:=P) (w:=w) (f:=f) (args:=_) he
 cases j with
 | zero=>simp at hz hv;subst hz;subst hv;exact hy
 | succ j=>
  simp only [Qr8,Qak,Qas]at hz hv
  obtain⟨y',hy',rfl⟩:=hz
  exact h2 j y' v hy' hv
theorem Qbb.methV {f:FuncId}{x:Operand}{name:String}{ags:Array Operand}{ts:Array TypeId}{t e:TypeId}{vs cs:List V}{b off:Nat}{r:V}(ho:o.op=.call { callee:=.invoke x name,args:=ags,argTypes:=ts })
  (hx:σ.opd x=some (.ifc t (.loc b 0 off))) (hm:Qmg P t name=some (f,false)) (hp:QwB P t e=true) (hg:Qgp P e=some false) (hb:look σ.hp b=some (.var cs)) (hr0:cs[off]? = some r) (he:Qq8 P f=true)
  (ha:σ.opsV ags.toList=some vs):Qbb P C o σ f (r::vs):=by
 intro φ a w hr
 obtain⟨h1,h2⟩:=hr.opsV _ _ ha
 obtain⟨y,hev,hy⟩:=(hr.opd hx).ifc_inv
 obtain⟨B,hB,rfl⟩:=hy.loc_inv
 obtain⟨xs,E,e1,e2,e0,e3⟩:=hr.block hB hb
 have hlt:off<xs.size:=by rw [e2];exact(QT.1 hr0).1
 have hload:(loadVar e ⟨B.b,B.off+(0*B.z+off),none⟩).run P w=.ok xs[off] w:=by
  have:=QiH (P:=P) (T:=e) (w:=w) (p:=⟨B.b,B.off+(0*B.z+off),none⟩) (x:=xs[off]) hg (by simp [World.cell?,e1,hlt,e0])
  simpa only [Instr.loadAt,Instr.sureAddr,Sem.run_bind,Sem.run_pure,Result.andThen_ok] using this
 refine⟨xs[off]::ags.toList.map a.eval,?_,by simpa using h1,fun j z v hz hv=>?_⟩
 ·have hmeth:(method (P.types.size+Made.depth) t (.pointer (some ⟨B.b,B.off+(0*B.z+off),none⟩)) name).run P w=.ok (f,xs[off]) w:=by
   have hd:P.types.size+Made.depth=(P.types.size+(Made.depth-1))+1:=by have:Made.depth=(Made.depth-1)+1:=rfl;omega
   rw [hd]
   exact Qsn hm (QwC hp hload)
  have e2:#[xs[off]]++ags.map a.eval=(xs[off]::ags.toList.map a.eval).toArray:=by apply Array.ext';simp
  have e3:(#[Value.iface t (.pointer (some ⟨B.b,B.off+(0*B.z+off),none⟩))]++ags.map a.eval)[0]? = some (.iface t (.pointer (some ⟨B.b,B.off+(0*B.z+off),none⟩))):=by rw [Array.getElem?_append_left (by simp)];rfl
  have e4:(#[Value.iface t (.pointer (some ⟨B.b,B.off+(0*B.z+off),none⟩))]++ags.map a.eval).extract 1 (#[Value.iface t (.pointer (some ⟨B.b,B.off+(0*B.z+off),none⟩))]++ags.map a.eval).size=ags.map a.eval:=by
   apply Array.ext';simp [QgB]
  simp only [execOp,ho,resolve,Sem.run_bind,hev,Sem.run_pure,Result.andThen_ok,invoke,e3,e4,callMethod,run_program,hmeth,e2]
  exact Qhs (P:=P) (w:=w) (f:=f) (args:=_) he
 cases j with
 | zero=>simp at hz hv;subst hz;subst hv;exact e3 off _ _ (QeA hlt) hr0
 | succ j=>
  simp only [Qr8,Qak,Qas]at hz hv
  obtain⟨y',hy',rfl⟩:=hz
  exact h2 j y' v hy' hv
def Gives (r:V)(outs:List (Nat×Ob))(v:V)(hs:List (Nat×Ob)):Prop:=v=r/\∀c ob,look outs c=some ob->look hs c=some ob
theorem Stp.callM {f:FuncId}{d:Nat}{g:Bool}{M N:List (Nat×Nat)}{dead:List Nat}{hsC outs hsN:List (Nat×Ob)}{vs us:List V}{r r':V}(hE:Qbb P C o σ f vs)(hd:o.dst=some d)(hn:Nat.ble (d+1) C.n=true)(hpg:C.pg P)
  (hnm:QcL σ M N dead outs=true) (hnd:(M.map Prod.fst).Nodup)
  (hv:Vws σ.hp g false (QeB M) (fun a b=>look M b=some a) vs us) (hobs:QiN σ.hp g false (QeB M) (fun a b=>look M b=some a) σ.hp M hsC)
  (hc:Qc P f us hsC (Gives r outs)) (hback:QiN [] false g [] (fun c b=>look N b=some c) outs N hsN) (hr':Vw [] false g [] (fun c b=>look N b=some c) r r'):
  Stp P C o σ ((σ.after dead hsN).put d r'):=by
 intro a w ⟨φ,hr⟩ next Q hnext
 have hN:=Names.of hnm hnd
 refine⟨fun _ _=>trivial,?_⟩
 obtain⟨vals,hex,h1,h2⟩:=hE φ a w hr
 rw [Qrs hex,Oper.uponIn_enter]
 refine⟨(fun h=>by cases h),Qo5 ((hc _ _ w _ (Ins.of_vals hr h1 h2 hN.injM hN.param hv hobs) ((hr.glob hpg).mono fun _ h=>.inl h)).mono ?_)⟩
 rintro e w' ⟨x,v,hs',φ',rfl,⟨rfl,hso⟩,hout⟩
 obtain⟨h3,h4⟩:=hr.after hN hout hso (fun c s h=>by
  obtain⟨ob',e1⟩:=hobs.get.2 c s h
  obtain⟨s',ob,e2,e3,_⟩:=hobs.get.1 c ob' e1
  rw [h]at e2;cases e2;exact⟨ob,e3⟩) hback
 refine hnext _ _ ⟨QjM φ M N dead φ',?_⟩
 rw [hd]
 exact h3.put (Qaj hn) (h4 hr')
end
end Go.Vm
namespace Go.Vm
open Go Go.RowKit
section
variable {κ α β:Type}[DecidableEq κ]
def Q0 : List (κ×α)->κ->Option α
 | [],_=>none
 | (a,x)::r,k=>if a=k then some x else Q0 r k
def QlN (lt:κ->κ->Bool):List (κ×α)->κ->α->List (κ×α)
 | [],k,v=>[(k,v)]
 | (a,x)::r,k,v=>if lt k a=true then(k,v)::(a,x)::r else(a,x)::QlN lt r k v
def QlO : List (κ×α)->κ->α->List (κ×α)
 | [],_,_=>[]
 | (a,x)::r,k,v=>if a=k then(k,v)::r else(a,x)::QlO r k v
def QcX (lt:κ->κ->Bool)(l:List (κ×α))(k:κ)(v:α):List (κ×α):=match Q0 l k with
 | some _=>QlO l k v
 | none=>QlN lt l k v
theorem QvD : ∀{l:List (κ×α)} {k:κ} {v:α},Q0 l k=some v->(k,v)∈l:=by
 intro l
 induction l with
 | nil=>intro k v h;cases h
 | cons p l ih=>
  intro k v h
  obtain⟨a,x⟩:=p
  rw [Q0]at h
  split at h
  ·rename_i e;subst e;cases h;exact Qbz
  exact Qb1 _ (ih h)
theorem Qvq : ∀{l:List (κ×α)} {k:κ} {v:α},(l.map Prod.fst).Nodup->(k,v)∈l->Q0 l k=some v:=by
 intro l
 induction l with
 | nil=>intro k v _ h;cases h
 | cons p l ih=>
  intro k v hn h
  obtain⟨a,x⟩:=p
  rw [Qgc,Qlp]at hn
  rw [Q0]
  rcases QaK.1 h with h | h
  ·cases h;simp
  have:a≠k:=fun e=>hn.1 (by rw [show(a,x).1=k from e];exact QaE.2 ⟨(k,v),h,rfl⟩)
  rw [if_neg this];exact ih hn.2 h
theorem QA0 : ∀{l:List (κ×α)} {k:κ},Q0 l k=none->∀p∈l,p.1≠k:=by
 intro l
 induction l with
 | nil=>intro k _ p h;cases h
 | cons q l ih=>
  intro k h p hp
  obtain⟨a,x⟩:=q
  rw [Q0]at h
  split at h
  ·cases h
  rename_i hne
  rcases QaK.1 hp with e | hp
  ·subst e;exact hne
  exact ih h p hp
theorem QtM (lt:κ->κ->Bool):∀(l:List (κ×α)) (k:κ) (v:α),(QlN lt l k v).Perm ((k,v)::l):=by
 intro l
 induction l with
 | nil=>intro k v;exact .refl _
 | cons p l ih=>
  intro k v
  obtain⟨a,x⟩:=p
  rw [QlN]
  split
  ·exact .refl _
  exact((ih k v).cons (a,x)).trans (.swap _ _ _)
theorem QvE : ∀(l:List (κ×α)) (k:κ) (v:α),(QlO l k v).map Prod.fst=l.map Prod.fst:=by
 intro l
 induction l with
 | nil=>intro k v;rfl
 | cons p l ih=>
  intro k v
  obtain⟨a,x⟩:=p
  rw [QlO]
  split
  ·rename_i e;subst e;rfl
  rw [Qgc,Qgc,ih]
theorem QBV : ∀{l:List (κ×α)} {k:κ} {v:α},(l.map Prod.fst).Nodup->(∃x,(k,x)∈l)->∀p,p∈QlO l k v↔p=(k,v)\/(p∈l/\p.1≠k):=by
 intro l
 induction l with
 | nil=>intro k v _ ⟨x,h⟩;cases h
 | cons q l ih=>
  intro k v hn ⟨x,hx⟩ p
  obtain⟨a,y⟩:=q
  rw [Qgc,Qlp]at hn
  rw [QlO]
  split
  ·rename_i e
   subst e
   have hno:∀p∈l,p.1≠a:=fun p hp e=>hn.1 (QaE.2 ⟨p,hp,e⟩)
   constructor
   ·intro h
    rcases QaK.1 h with h | h
    ·exact .inl h
    exact .inr ⟨Qb1 _ h,hno p h⟩
   rintro (h | ⟨h,h'⟩)
   ·rw [h];exact Qbz
   rcases QaK.1 h with h | h
   ·subst h;exact absurd rfl h'
   exact Qb1 _ h
  rename_i hne
  have hx':(k,x)∈l:=by
   rcases QaK.1 hx with h | h
   ·cases h;exact absurd rfl hne
   exact h
  have:=ih hn.2 ⟨x,hx'⟩ (v:=v) p
  rw [QaK,this,QaK]
  constructor
  ·rintro (h | h | h)
   ·subst h;exact .inr ⟨.inl rfl,hne⟩
   ·exact .inl h
   exact .inr ⟨.inr h.1,h.2⟩
  rintro (h | ⟨h | h,h'⟩)
  ·exact .inr (.inl h)
  ·exact .inl h
  exact .inr (.inr ⟨h,h'⟩)
theorem Qz4 (lt:κ->κ->Bool){l:List (κ×α)}{k:κ}{v:α}(h:(l.map Prod.fst).Nodup):((QcX lt l k v).map Prod.fst).Nodup:=by
 unfold QcX
 split
 ·rw [QvE];exact h
 rename_i hn
 refine(((QtM lt l k v).map Prod.fst).nodup_iff).2 ?_
 rw [Qgc,Qlp]
 refine⟨fun hm=>?_,h⟩
 obtain⟨p,hp,e⟩:=QaE.1 hm
 exact QA0 hn p hp e
end
def QW {κ α:Type}(e:κ->V)(f:α->V)(l:List (κ×α)):List (V×V):=l.map fun p=>(e p.1,f p.2)
structure QgD (P:Program) (K:TypeId) {κ:Type} (e:κ->V) (val:κ->Value):Prop where
 d:∃D,P.underlying K=some D/\∀k,MapKept.IsKey D (val k)
 inv:∀I w x k,Dat I w x (e k)->x=val k
 dat:∀I w k,Dat I w (val k) (e k)
 edat:∀k,(e k).dat=true
 inj:∀a b,val a=val b->a=b
 einj:∀a b,e a=e b->a=b
def QDi (P:Program)(K:TypeId)(kk:IntKind):Bool:=match P.underlying K with
 | some (.int k)=>decide (k=kk)
 | _=>false
theorem QgD.int {P:Program}{K:TypeId}{kk:IntKind}(h:QDi P K kk=true):QgD P K (V.i kk) (Value.int kk):=by
 unfold QDi at h
 split at h
 ·rename_i k hk
  have:=Qap h
  subst this
  refine⟨⟨_,hk,fun _=>rfl⟩,fun I w x k h=>by cases h;rfl,fun I w k=>.i _ _,fun _=>rfl,fun a b h=>by cases h;rfl,fun a b h=>by cases h;rfl⟩
 cases h
theorem QgD.str {P:Program}{K:TypeId}(h:QtE P K=true):QgD P K V.s Value.string:=
 ⟨⟨_,QvC h,fun _=>trivial⟩,fun I w x k h=>by cases h;rfl,fun I w k=>.s _,fun _=>rfl,fun a b h=>by cases h;rfl,fun a b h=>by cases h;rfl⟩
section
variable {P:Program}{K:TypeId}{κ α:Type}[DecidableEq κ]{e:κ->V}{val:κ->Value}{f:α->V}{I:Nat->Prop}{w:World}{B:Blk}{l:List (κ×α)}
theorem QoM (he:∀a b,e a=e b->a=b):((QW e f l).map Prod.fst).Nodup↔(l.map Prod.fst).Nodup:=by
 have:(QW e f l).map Prod.fst=(l.map Prod.fst).map e:=by simp [QW]
 rw [this]
 constructor
 ·intro h;exact(Qqn.1 h).imp fun hab e'=>hab (by rw [e'])
 intro h;exact Qqn.2 (h.imp fun hab e'=>hab (he _ _ e'))
theorem QeV.find (hk:QgD P K e val){D:TypeDesc}(hD:P.underlying K=some D)(h:QeV I w B (QW e f l))(k:κ):∃es clock,w.heap[B.b]? = some (.map es clock)/\MapKept.Stamped es clock/\(l.map Prod.fst).Nodup/\
  es.size=l.length/\MapKept.IsKey D (val k)/\
  ((Q0 l k=none/\Instr.findNow D (val k) es.toList 0=some none/\∀x∈es.toList,x.key≠val k)\/
   ∃j x v,Q0 l k=some v/\Instr.findNow D (val k) es.toList 0=some (some (j,x.val))/\es[j]? = some x/\x.key=val k/\Dat I w x.val (f v)):=by
 obtain⟨es,clock,h1,h2,h3,h4,h5,h6⟩:=h
 obtain⟨D',hD',hK⟩:=hk.d
 rw [hD]at hD';cases hD'
 have hn:=(QoM hk.einj).1 h3
 have hrow:∀x∈es.toList,∃a y,(a,y)∈l/\x.key=val a/\Dat I w x.val (f y):=fun x hx=>by
  obtain⟨p,hp,a1,a2⟩:=h5 x hx
  obtain⟨q,hq,rfl⟩:=QaE.1 hp
  exact⟨q.1,q.2,hq,hk.inv _ _ _ _ a1,a2⟩
 have hks:∀x∈es.toList,MapKept.IsKey D x.key:=fun x hx=>by obtain⟨a,y,_,e1,_⟩:=hrow x hx;rw [e1];exact hK a
 refine⟨es,clock,h1,h2,hn,by rw [h4,QW,Qlm],hK k,?_⟩
 rcases MapKept.findNow_spec (hK k) es.toList 0 hks with⟨g1,g2⟩|⟨j,x,g1,g2,g3⟩
 ·refine .inl ⟨?_,g1,g2⟩
  cases hg:Q0 l k with
  | none=>rfl
  | some v=>
   obtain⟨x,hx,a1,_⟩:=h6 (e k,f v) (QaE.2 ⟨(k,v),QvD hg,rfl⟩)
   exact absurd (hk.inv _ _ _ _ a1) (g2 x hx)
 obtain⟨a,y,hm,e1,e2⟩:=hrow x (Qaa g2)
 have:a=k:=hk.inj _ _ (by rw [<-e1,g3])
 subst this
 exact .inr ⟨j,x,y,Qvq hn hm,by simpa using g1,by simpa using g2,g3,e2⟩
end
def Qso (P:Program)(T:TypeId):Option (TypeId×TypeId):=match P.underlying T with
 | some (.map k e)=>some (k,e)
 | _=>none
theorem Qo9 {P:Program}{T k e:TypeId}(h:Qso P T=some (k,e)):P.underlying T=some (.map k e):=by
 unfold Qso at h
 split at h
 ·rename_i h';cases h;exact h'
 cases h
section
variable {P:Program}{C:Ctx}{σ:St}{o:Oper}
theorem Stp.makeMap {T d:Nat}(ho:o.op=.makeMap T none)(hd:o.dst=some d)(hn:Nat.ble (d+1) C.n=true)(hf:look σ.hp d=none):Stp P C o σ ((σ.set d (.map [])).put d (.map d)):=by
 refine Stp.val fun φ a w hr=>?_
 refine⟨.map (some w.heap.size),w.alloc (.map #[] 0),ext φ d ⟨w.heap.size,0,0,[],0⟩,?_,?_⟩
 ·simp [execOp,ho,Instr.makeMap]
 rw [hd]
 refine(hr.alloc (cap:=0) (z:=0) hf (C.slot hn) (ob:=.map []) (obj:=.map #[] 0) ⟨#[],0,heap_alloc_new w _,MapKept.stamped_empty 0,by simp,rfl,by simp,by simp⟩).put (Qaj hn) ?_
 exact .map d ⟨w.heap.size,0,0,[],0⟩ (Q8 _ _ _)
def Qmh (P:Program)(T:TypeId)(z:V):Prop:=∃i x,P.info? T=some i/\i.zero=some x/\∀I w,Dat I w x z
theorem Stp.lookup {T d b K E:Nat}{x y:Operand}{κ α:Type}[DecidableEq κ]{e:κ->V}{val:κ->Value}{f:α->V}{l:List (κ×α)}{k:κ}{z:α}{v:V}(ho:o.op=.lookup T x y false)(hd:o.dst=some d)
  (hn:Nat.ble (d+1) C.n=true) (hx:σ.opd x=some (.map b)) (hb:look σ.hp b=some (.map (QW e f l))) (hy:σ.opd y=some (e k)) (hT:Qso P T=some (K,E)) (hk:QgD P K e val) (hz:Qmh P E (f z))
  (hv:f ((Q0 l k).getD z)=v):Stp P C o σ (σ.put d v):=by
 refine Stp.same hd hn fun φ a w hr=>?_
 subst hv
 obtain⟨B,hB,he⟩:=(hr.opd hx).map_inv
 have hyv:a.eval y=val k:=hk.inv _ _ _ _ ((hr.opd hy).toDat (hk.edat k))
 obtain⟨D,hD,_⟩:=hk.d
 obtain⟨es,clock,h1,h2,h3,h4,h5,h6⟩:=QeV.find hk hD (hr.block hB hb) k
 obtain⟨i,zx,hi,hzx,hzd⟩:=hz
 rcases h6 with⟨g1,g2,_⟩|⟨j,xx,v,g1,g2,g3,g4,g5⟩
 ·refine⟨zx,?_,by rw [g1];exact .dat (hzd _ _)⟩
  simp [execOp,ho,he,hyv,Instr.lookup,run_underlying (Qo9 hT),MapKept.run_getObj_map h1,MapKept.run_checkKey hD h5,MapKept.run_findKey hD g2,zeroValue,typeInfo,hi,hzx]
 refine⟨xx.val,?_,by rw [g1];exact .dat g5⟩
 simp [execOp,ho,he,hyv,Instr.lookup,run_underlying (Qo9 hT),MapKept.run_getObj_map h1,MapKept.run_checkKey hD h5,MapKept.run_findKey hD g2]
theorem QiO {w:World}{r k:Nat}(o:Obj)(h:k≠r):(w.heap.setIfInBounds r o)[k]? = w.heap[k]? := by
 rw [Qq4,if_neg (Ne.symm h)]
theorem Stp.mapUpdateI {T b K E:Nat}{x y u:Operand}{κ α:Type}[DecidableEq κ]{e:κ->V}{val:κ->Value}{f:α->V}{l:List (κ×α)}{k:κ}{v:α}(lt:κ->κ->Bool)(ho:o.op=.mapUpdate T x y u\/o.op=.insert T x y u)(hd:o.dst=none)
  (hx:σ.opd x=some (.map b)) (hb:look σ.hp b=some (.map (QW e f l))) (hy:σ.opd y=some (e k)) (hu:σ.opd u=some (f v)) (hT:Qso P T=some (K,E)) (hk:QgD P K e val) (hv:(f v).dat=true):
  Stp P C o σ (σ.set b (.map (QW e f (QcX lt l k v)))):=by
 refine Stp.skp fun φ a w hr=>?_
 obtain⟨B,hB,he⟩:=(hr.opd hx).map_inv
 have hyv:a.eval y=val k:=hk.inv _ _ _ _ ((hr.opd hy).toDat (hk.edat k))
 have huv:=(hr.opd hu).toDat hv
 obtain⟨D,hD,_⟩:=hk.d
 have hrep:=hr.block hB hb
 obtain⟨es,clock,h1,h2,h3,h4,h5,h6⟩:=QeV.find hk hD hrep k
 obtain⟨es',clock',h1',_,_,_,r5,r6⟩:=hrep
 rw [h1]at h1';cases h1'
 have hlt:B.b<w.heap.size:=(hr.lt b B _ hB B.self).1
 have write:∀(es2:Array MapEntry) (clock2:Nat) (l2:List (κ×α)),MapKept.Stamped es2 clock2->(l2.map Prod.fst).Nodup->es2.size=l2.length->
   (∀x∈es2.toList,∃p∈l2,x.key=val p.1/\Dat (Imm C φ w) w x.val (f p.2))->(∀p∈l2,∃x∈es2.toList,x.key=val p.1/\Dat (Imm C φ w) w x.val (f p.2))->
   RR C φ (σ.set b (.map (QW e f l2))) a { w with heap:=w.heap.setIfInBounds B.b (.map es2 clock2) }:=by
  intro es2 clock2 l2 a1 a2 a3 a4 a5
  have hI:∀k,Imm C φ w k->Imm C φ { w with heap:=w.heap.setIfInBounds B.b (.map es2 clock2) } k/\(w.heap.setIfInBounds B.b (.map es2 clock2))[k]? = w.heap[k]? := fun k hk'=>
   ⟨⟨by simpa using hk'.1,hk'.2⟩,QiO _ fun e=>hk'.2.2 b B hB (.inl e)⟩
  refine hr.write hB rfl rfl rfl (by simp) (fun k hne=>QiO _ hne) ⟨es2,clock2,by simp [hlt],a1,(QoM hk.einj).2 a2,by rw [a3,QW,Qlm],fun x hx=>?_,fun p hp=>?_⟩
  ·obtain⟨p,hp,e1,e2⟩:=a4 x hx
   exact⟨_,QaE.2 ⟨p,hp,rfl⟩,by rw [e1];exact hk.dat _ _ _,e2.mono hI⟩
  obtain⟨q,hq,rfl⟩:=QaE.1 hp
  obtain⟨x,hx,e1,e2⟩:=a5 q hq
  exact⟨x,hx,by rw [e1];exact hk.dat _ _ _,e2.mono hI⟩
 have old1:∀x∈es.toList,∃p∈l,x.key=val p.1/\Dat (Imm C φ w) w x.val (f p.2):=fun x hx=>by
  obtain⟨p,hp,a1,a2⟩:=r5 x hx
  obtain⟨q,hq,rfl⟩:=QaE.1 hp
  exact⟨q,hq,hk.inv _ _ _ _ a1,a2⟩
 have old2:∀p∈l,∃x∈es.toList,x.key=val p.1/\Dat (Imm C φ w) w x.val (f p.2):=fun p hp=>by
  obtain⟨x,hx,a1,a2⟩:=r6 _ (QaE.2 ⟨p,hp,rfl⟩)
  exact⟨x,hx,hk.inv _ _ _ _ a1,a2⟩
 rcases h6 with⟨g1,g2,g3⟩|⟨j,xx,v0,g1,g2,g3,g4,g5⟩
 ·refine⟨{ w with heap:=w.heap.setIfInBounds B.b (.map (es.push { key:=val k,val:=a.eval u,born:=clock }) (clock+1)) },φ,?_,?_⟩
  ·rcases ho with ho | ho<;>simp [execOp,ho,he,hyv,Instr.mapUpdate,run_underlying (Qo9 hT),MapKept.run_getObj_map h1,MapKept.run_checkKey hD h5,MapKept.run_findKey hD g2,MapKept.run_setObj_map _ h1]
  rw [hd]
  have hms:QcX lt l k v=QlN lt l k v:=by unfold QcX;rw [g1]
  have hmem:∀p,p∈QlN lt l k v↔p=(k,v)\/p∈l:=fun p=>by rw [(QtM lt l k v).mem_iff,QaK]
  rw [hms]
  refine write _ _ _ (MapKept.stamped_push h2 g3) (by rw [<-hms];exact Qz4 lt h3) (by rw [(QtM lt l k v).length_eq];simp [h4]) (fun x hx=>?_) (fun p hp=>?_)
  ·simp only [Array.toList_push,QcH,Qnk]at hx
   rcases hx with hx | rfl
   ·obtain⟨p,hp,e1,e2⟩:=old1 x hx;exact⟨p,(hmem p).2 (.inr hp),e1,e2⟩
   exact⟨(k,v),(hmem _).2 (.inl rfl),rfl,huv⟩
  rcases(hmem p).1 hp with rfl | hp
  ·exact⟨{ key:=val k,val:=a.eval u,born:=clock },by simp,rfl,huv⟩
  obtain⟨x,hx,e1,e2⟩:=old2 p hp;exact⟨x,by simp only [Array.toList_push,QcH];exact .inl hx,e1,e2⟩
 refine⟨{ w with heap:=w.heap.setIfInBounds B.b (.map (es.modify j fun x=>{ x with key:=val k,val:=a.eval u }) clock) },φ,?_,?_⟩
 ·rcases ho with ho | ho<;>simp [execOp,ho,he,hyv,Instr.mapUpdate,run_underlying (Qo9 hT),MapKept.run_getObj_map h1,MapKept.run_checkKey hD h5,MapKept.run_findKey hD g2,MapKept.run_setObj_map _ h1,g3,g4,MapKept.run_keyThatStays h5]
 rw [hd]
 have hms:QcX lt l k v=QlO l k v:=by unfold QcX;rw [g1]
 have hmem:=QBV h3 ⟨v0,QvD g1⟩ (v:=v)
 have hlen:(QlO l k v).length=l.length:=by have:=congrArg List.length (QvE l k v);simpa using this
 have hjlt:j<es.size:=(Qhr.1 g3).1
 have hmod:∀i:Nat,(es.modify j fun x=>{ x with key:=val k,val:=a.eval u })[i]? = if i=j then some { xx with key:=val k,val:=a.eval u }else es[i]? := fun i=>by
  rw [Array.getElem?_modify]
  by_cases hij:j=i
  ·subst hij;simp [g3]
  rw [if_neg hij,if_neg (Ne.symm hij)]
 have hkeyj:∀i x,es[i]? = some x->x.key=val k->i=j:=fun i x hx hxk=>by
  have hnd:=h2.2.2
  have i1:(es.toList.map (·.key))[i]? = some (val k):=by simp [Qak,hx,hxk]
  have i2:(es.toList.map (·.key))[j]? = some (val k):=by simp [Qak,g3,g4]
  exact(List.getElem?_inj (by simpa using (Qhr.1 hx).1) hnd).1 (i1.trans i2.symm)
 rw [hms]
 refine write _ _ _ (MapKept.stamped_modify h2 _ _ (fun _ _=>rfl) fun x _ hx=>by rw [g3]at hx;cases hx;exact g4.symm) (by rw [QvE];exact h3) (by rw [Array.size_modify,h4,hlen]) (fun x hx=>?_) (fun p hp=>?_)
 ·obtain⟨i,hi⟩:=Qlo.1 hx
  rw [Qq5,hmod]at hi
  split at hi
  ·cases hi;exact⟨(k,v),(hmem _).2 (.inl rfl),rfl,huv⟩
  rename_i hne
  obtain⟨p,hp,e1,e2⟩:=old1 x (by rw [Qlo];exact⟨i,by simpa using hi⟩)
  exact⟨p,(hmem p).2 (.inr ⟨hp,fun e=>hne (hkeyj i x hi (by rw [e1,e]))⟩),e1,e2⟩
 rcases(hmem p).1 hp with rfl | ⟨hp,hne⟩
 ·exact⟨_,Qlo.2 ⟨j,by rw [Qq5,hmod,if_pos rfl]⟩,rfl,huv⟩
 obtain⟨x,hx,e1,e2⟩:=old2 p hp
 obtain⟨i,hi⟩:=Qlo.1 hx
 refine⟨x,Qlo.2 ⟨i,?_⟩,e1,e2⟩
 have hij:i≠j:=fun e=>by
  subst e
  rw [Qq5,g3]at hi;cases hi
  exact hne (hk.inj _ _ (by rw [<-e1,g4]))
 rw [Qq5,hmod,if_neg hij,<-Qq5];exact hi
theorem Stp.mapUpdate {T b K E:Nat}{x y u:Operand}{κ α:Type}[DecidableEq κ]{e:κ->V}{val:κ->Value}{f:α->V}{l:List (κ×α)}{k:κ}{v:α}(lt:κ->κ->Bool)(ho:o.op=.mapUpdate T x y u)(hd:o.dst=none)
  (hx:σ.opd x=some (.map b)) (hb:look σ.hp b=some (.map (QW e f l))) (hy:σ.opd y=some (e k)) (hu:σ.opd u=some (f v)) (hT:Qso P T=some (K,E)) (hk:QgD P K e val) (hv:(f v).dat=true):
  Stp P C o σ (σ.set b (.map (QW e f (QcX lt l k v)))):=
 Stp.mapUpdateI lt (.inl ho) hd hx hb hy hu hT hk hv
theorem Stp.insert {T b K E:Nat}{x y u:Operand}{κ α:Type}[DecidableEq κ]{e:κ->V}{val:κ->Value}{f:α->V}{l:List (κ×α)}{k:κ}{v:α}(lt:κ->κ->Bool)(ho:o.op=.insert T x y u)(hd:o.dst=none)
  (hx:σ.opd x=some (.map b)) (hb:look σ.hp b=some (.map (QW e f l))) (hy:σ.opd y=some (e k)) (hu:σ.opd u=some (f v)) (hT:Qso P T=some (K,E)) (hk:QgD P K e val) (hv:(f v).dat=true):
  Stp P C o σ (σ.set b (.map (QW e f (QcX lt l k v)))):=
 Stp.mapUpdateI lt (.inr ho) hd hx hb hy hu hT hk hv
end
end Go.Vm
namespace Go.Vm
open Go Go.RowKit
inductive Bnd (σ:St) (dflt:Nat):Option Operand->Nat->Prop where
 | no:Bnd σ dflt none dflt
 | val {x:Operand} {k:IntKind} {n:Int} {l:Nat}:σ.opd x=some (.i k n)->0<=n->n.toNat=l->Bnd σ dflt (some x) l
section
variable {P:Program}{C:Ctx}{σ:St}{o:Oper}{φ:Nat->Option Blk}{a:Act}{w:World}
theorem Qi4 {k:IntKind}{i:Int}{y:Nat}{code:BoundsCode}(h0:0<=i)(h1:i.toNat<=y):(Instr.sliceBound (.int k i) y code).run P w=.ok i.toNat w:=by
 have:0<=i/\i<=(y:Int):=⟨h0,by omega⟩
 simp [Instr.sliceBound,asIntOf,this]
theorem Qkd (hr:RR C φ σ a w){lo hi:Option Operand}{l h len cap:Nat}{b:Bool}(hl:Bnd σ 0 lo l)(hh:Bnd σ len hi h)(h1:l<=h)(h2:h<=cap):
  (Instr.sliceBounds b len cap (lo.map a.eval) (hi.map a.eval) none).run P w=.ok (l,h,cap) w:=by
 cases hl with
 | no=>
  cases hh with
  | no=>simp [Instr.sliceBounds]
  | val e1 e2 e3=>subst e3;simp [Instr.sliceBounds,(hr.opd e1).i_inv,Qi4 e2 h2]
 | val e1 e2 e3=>
  subst e3
  cases hh with
  | no=>simp [Instr.sliceBounds,(hr.opd e1).i_inv,Qi4 e2 h1]
  | val f1 f2 f3=>subst f3;simp [Instr.sliceBounds,(hr.opd e1).i_inv,Qi4 e2 h1,(hr.opd f1).i_inv,Qi4 f2 h2]
theorem Stp.sliceD {T d l h e z by_:Nat}{x:Operand}{lo hi:Option Operand}{rows us:List (List V)}(ho:o.op=.slice T x lo hi none)(hd:o.dst=some d)(hn:Nat.ble (d+1) C.n=true)(hx:σ.opd x=some (.sl z rows))
  (hT:Qav P T=some (e,z,by_)) (hl:Bnd σ 0 lo l) (hh:Bnd σ rows.length hi h) (h1:l<=h) (h2:h<=rows.length) (hu:(rows.drop l).take (h-l)=us):Stp P C o σ (σ.put d (.sl z us)):=by
 refine Stp.same hd hn fun φ a w hr=>?_
 subst hu
 obtain⟨hu,i,hi',hiz,_⟩:=Qcu hT
 rcases(hr.opd hx).sl_inv with⟨a0,cap,he,rfl⟩|⟨b,off,cap,he,hI,hcap,hok,c,hc,hdat⟩
 ·have h0:h=0:=by simpa using h2
  subst h0
  have l0:l=0:=by omega
  subst l0
  refine⟨.slice (if cap=0 then a0 else a0.map (·.add (0*i.size))) 0 cap,?_,.dat (.sl0 _ _ _)⟩
  have hh':Bnd σ 0 hi 0:=hh
  simp [execOp,ho,he,Instr.sliceAt,Instr.slice,run_underlying hu,Qkd hr hl hh' h1 (by simp:0<=cap),sizeOf,typeInfo,hi']
 refine⟨.slice (if cap=l then some ⟨b,off,none⟩else some ((⟨b,off,none⟩:Addr).add (l*i.size))) (h-l) (cap-l),?_,.dat ?_⟩
 ·simp only [execOp,ho,he,Instr.sliceAt,Instr.slice,run_underlying hu,Qsc,Qkd hr hl hh h1 (by omega:h<=cap),sizeOf,typeInfo,hi',Sem.run_bind,Sem.run_pure,run_program,Result.andThen_ok,Qfu,Qsc]
 by_cases hlh:h-l=0
 ·rw [hlh];simp only [Qsb];exact .sl0 _ _ _
 have hcl:cap≠l:=by omega
 rw [if_neg hcl,hiz,Addr.add_lit]
 refine .sl b (off+l*z) (h-l) (cap-l) z _ (fun j=>c (l*z+j)) hI (by simp;omega) (by omega) (fun r hr'=>hok r (QoI (QeQ hr'))) (fun j hj=>?_) (fun k r hk j v hj=>?_)
 ·have hle:l*z+(h-l)*z<=rows.length*z:=by rw [<-QcI];exact Qct _ (by omega)
  have:=hc (l*z+j) (by omega)
  rw [Qmd];exact this
 rw [Qbx]at hk
 split at hk
 ·rw [QgA]at hk
  have:=hdat (l+k) r hk j v hj
  rw [QcI]at this
  rw [<-Qmd];exact this
 cases hk
theorem RR.shrink (h:RR C φ σ a w){b z:Nat}{rs:List (List V)}(hb:look σ.hp b=some (.arr z rs))(n:Nat):RR C φ (σ.set b (.arr z (rs.take n))) a w:=by
 refine⟨h.os,h.tape,h.output,h.size,h.kept,h.inj,fun o B hB=>?_,h.lt,h.new,h.stay.set hb,h.tmps,h.defers,h.frame,fun o ob hob=>?_⟩
 ·by_cases e:o=b
  ·subst e;exact⟨_,σ.look_set_same _ _⟩
  obtain⟨ob,h1⟩:=h.dom o B hB;exact⟨ob,by rw [σ.look_set_other _ (Ne.symm e)];exact h1⟩
 by_cases e:o=b
 ·subst e;rw [σ.look_set_same]at hob;cases hob
  rcases h.heap o _ hb with⟨B,hB,h1,h2,h3,cs,E,h4,h5,h6⟩|⟨h1,h2⟩
  ·refine .inl ⟨B,hB,h1,by simp;omega,fun r hr=>h3 r (QeQ hr),cs,E,h4,h5,fun i r hi=>?_⟩
   rw [Qbx]at hi
   split at hi
   ·exact h6 i r hi
   cases hi
  exact .inr ⟨h1,by show rs.take n=[];rw [show rs=[]from h2,List.take_nil]⟩
 rw [σ.look_set_other _ (Ne.symm e)]at hob;exact h.heap o ob hob
theorem Stp.sliceO {T d b n h e z by_:Nat}{x:Operand}{lo hi:Option Operand}{rs us:List (List V)}(ho:o.op=.slice T x lo hi none)(hd:o.dst=some d)(hn:Nat.ble (d+1) C.n=true)(hx:σ.opd x=some (.own b n))
  (hb:look σ.hp b=some (.arr z rs)) (hT:Qav P T=some (e,z,by_)) (hl:Bnd σ 0 lo 0) (hh:Bnd σ n hi h) (h2:h<=n) (hu:rs.take h=us):Stp P C o σ ((σ.set b (.arr z us)).put d (.own b h)):=by
 refine Stp.val fun φ a w hr=>?_
 subst hu
 obtain⟨hu,i,hi',hiz,_⟩:=Qcu hT
 have hs:=hr.shrink hb h
 rcases(hr.opd hx).own_inv with⟨he,rfl⟩|⟨B,hB,hcap,he⟩
 ·have h0:h=0:=by omega
  subst h0
  refine⟨.slice none 0 0,w,φ,?_,by rw [hd];exact hs.put (Qaj hn) (.own0 b)⟩
  simp [execOp,ho,he,Instr.sliceAt,Instr.slice,run_underlying hu,Qkd hr hl hh (by omega) (by omega:0<=0),sizeOf,typeInfo,hi']
 refine⟨.slice (some ⟨B.b,B.off,none⟩) h B.cap,w,φ,?_,by rw [hd];exact hs.put (Qaj hn) (.own b h B hB (by omega))⟩
 simp only [execOp,ho,he,Instr.sliceAt,Instr.slice,run_underlying hu,Qkd hr hl hh (by omega) (by omega:h<=B.cap),sizeOf,typeInfo,hi',Sem.run_bind,Sem.run_pure,run_program,Result.andThen_ok,Qfu,Qsc,Qme,Addr.add_lit,Qlq,ite_self,Nat.sub_zero]
def QuN (P:Program)(T:TypeId):Bool:=match P.underlying T with
 | some (.interface _)=>false
 | some _=>true
 | none=>false
theorem Qx8 {T:TypeId}(h:QuN P T=true):∃D,P.underlying T=some D/\∀m,D≠.interface m:=by
 unfold QuN at h
 split at h
 ·cases h
 ·rename_i D hne he;exact⟨D,he,fun m e=>hne m (by rw [e])⟩
 cases h
theorem Stp.makeInterface {T d:Nat}{x:Operand}{v:V}(ho:o.op=.makeInterface T x)(hd:o.dst=some d)(hn:Nat.ble (d+1) C.n=true)(hx:σ.opd x=some v)(hT:QuN P T=true):Stp P C o σ (σ.put d (.ifc T v)):=by
 refine Stp.same hd hn fun φ a w hr=>⟨.iface T (a.eval x),?_,.ifc T _ _ (hr.opd hx)⟩
 obtain⟨D,hD,hne⟩:=Qx8 hT
 have:(Instr.makeInterface T (a.eval x)).run P w=.ok (.iface T (a.eval x)) w:=by
  simp only [Instr.makeInterface,Sem.run_bind,run_underlying hD,Result.andThen_ok]
  cases D<;>first | rfl | exact absurd rfl (hne _)
 simp only [execOp,ho,Sem.run_bind,this,Result.andThen_ok,Sem.run_pure]
theorem Stp.typeAssert {T S d:Nat}{x:Operand}{v:V}(ho:o.op=.typeAssert x S T false)(hd:o.dst=some d)(hn:Nat.ble (d+1) C.n=true)(hx:σ.opd x=some (.ifc T v))(hT:QuN P T=true):Stp P C o σ (σ.put d v):=by
 refine Stp.same hd hn fun φ a w hr=>?_
 obtain⟨y,he,hy⟩:=(hr.opd hx).ifc_inv
 refine⟨y,?_,hy⟩
 obtain⟨D,hD,hne⟩:=Qx8 hT
 have:(Instr.typeAssert (.iface T y) S T false).run P w=.ok y w:=by
  simp only [Instr.typeAssert,Sem.run_bind,run_underlying hD,Result.andThen_ok]
  cases D<;>first | simp | exact absurd rfl (hne _)
 simp only [execOp,ho,he,Sem.run_bind,this,Result.andThen_ok,Sem.run_pure]
theorem Stp.nilCheckL {d b i k:Nat}{x:Operand}(ho:o.op=.nilCheck x)(hd:o.dst=some d)(hn:Nat.ble (d+1) C.n=true)(hx:σ.opd x=some (.loc b i k)):Stp P C o σ (σ.put d (.loc b i k)):=by
 refine Stp.same hd hn fun φ a w hr=>⟨a.eval x,?_,hr.opd hx⟩
 obtain⟨B,hB,he⟩:=(hr.opd hx).loc_inv
 simp [execOp,ho,he]
theorem Stp.makeFunc {d:Nat}{fn:Fn}{first caps:Array Operand}{vs us:List V}(ho:o.op=.makeFunc fn first caps)(hd:o.dst=some d)(hn:Nat.ble (d+1) C.n=true)(h1:σ.opsV first.toList=some vs)(h2:σ.opsV caps.toList=some us):
  Stp P C o σ (σ.put d (.clo fn vs us)):=by
 refine Stp.same hd hn fun φ a w hr=>?_
 obtain⟨a1,a2⟩:=hr.opsV _ _ h1
 obtain⟨b1,b2⟩:=hr.opsV _ _ h2
 refine⟨.func fn (first.map a.eval) (caps.map a.eval),by simp [execOp,ho,Instr.makeFunc],.clo fn _ _ _ _ (by simpa using a1) (by simpa using b1) (fun j x v hx hv=>?_) fun j x v hx hv=>?_⟩
 ·rw [Array.getElem?_map,Qas]at hx
  obtain⟨y,hy,rfl⟩:=hx
  exact a2 j y v (by simpa using hy) hv
 rw [Array.getElem?_map,Qas]at hx
 obtain⟨y,hy,rfl⟩:=hx
 exact b2 j y v (by simpa using hy) hv
end
end Go.Vm
namespace Go.Vm
open Go Go.RowKit
def Qsp {κ:Type}(e:κ->V)(l:List (κ×List (List V))):List (V×List (List V)):=l.map fun p=>(e p.1,p.2)
section
variable {P:Program}{K:TypeId}{κ:Type}[DecidableEq κ]{e:κ->V}{val:κ->Value}{I:Nat->Prop}{w:World}{B:Blk}{l:List (κ×List (List V))}{z:Nat}{out:Option V}
theorem QwD (he:∀a b,e a=e b->a=b):((Qsp e l).map Prod.fst).Nodup↔(l.map Prod.fst).Nodup:=by
 have:(Qsp e l).map Prod.fst=(l.map Prod.fst).map e:=by simp [Qsp]
 rw [this]
 constructor
 ·intro h;exact(Qqn.1 h).imp fun hab e'=>hab (by rw [e'])
 intro h;exact Qqn.2 (h.imp fun hab e'=>hab (he _ _ e'))
def QyS (I:Nat->Prop)(w:World)(z:Nat)(e:κ->V)(val:κ->Value)(out:Option V)(l:List (κ×List (List V)))(x:MapEntry)(E:Option Blk):Prop:=
 ∃q∈l,x.key=val q.1/\((∃F,E=some F/\F.more=[]/\out≠some (e q.1)/\Qba I w F z q.2/\x.val=.slice (some ⟨F.b,F.off,none⟩) q.2.length F.cap)\/(E=none/\out=some (e q.1)))
theorem QeW.find (hk:QgD P K e val){D:TypeDesc}(hD:P.underlying K=some D)(h:QeW I w B z (Qsp e l) out)(k:κ):∃(es:Array MapEntry) (clock:Nat) (bs:List (Option Blk)),w.heap[B.b]? = some (.map es clock)/\MapKept.Stamped es clock/\(l.map Prod.fst).Nodup/\
  es.size=l.length/\bs.length=l.length/\B.more=bs.filterMap (Option.map Blk.b)/\(B.b::B.more).Nodup/\MapKept.IsKey D (val k)/\
  (∀(i:Nat) x E,es[i]? = some x->bs[i]? = some E->QyS I w z e val out l x E)/\(∀q∈l,∃(i:Nat) (x:MapEntry),es[i]? = some x/\x.key=val q.1)/\
  ((Q0 l k=none/\Instr.findNow D (val k) es.toList 0=some none/\∀x∈es.toList,x.key≠val k)\/
   ∃j x E rs,Q0 l k=some rs/\Instr.findNow D (val k) es.toList 0=some (some (j,x.val))/\es[j]? = some x/\bs[j]? = some E/\x.key=val k/\∀i y,es[i]? = some y->y.key=val k->i=j):=by
 obtain⟨es,clock,h1,h2,h3,h4,bs,h5,h6,h7,h8,h9⟩:=h
 obtain⟨D',hD',hK⟩:=hk.d
 rw [hD]at hD';cases hD'
 have hn:=(QwD hk.einj).1 h3
 have hl:(Qsp e l).length=l.length:=by simp [Qsp]
 have hrow:∀(i:Nat) x E,es[i]? = some x->bs[i]? = some E->QyS I w z e val out l x E:=fun i x E hi hE=>by
  obtain⟨p,hp,a1,a2⟩:=h8 i x E hi hE
  obtain⟨q,hq,rfl⟩:=QaE.1 hp
  exact⟨q,hq,hk.inv _ _ _ _ a1,a2⟩
 have hbs:∀i x,es[i]? = some x->∃E,bs[i]? = some E:=fun i x hi=>by
  have hlt:i<bs.length:=by rw [h5,<-h4];exact(Qhr.1 hi).1
  exact⟨_,QG hlt⟩
 have hks:∀x∈es.toList,MapKept.IsKey D x.key:=fun x hx=>by
  obtain⟨i,hi⟩:=Qlo.1 hx
  rw [Qq5]at hi
  obtain⟨E,hE⟩:=hbs i x hi
  obtain⟨q,_,e1,_⟩:=hrow i x E hi hE
  rw [e1];exact hK _
 refine⟨es,clock,bs,h1,h2,hn,by rw [h4,hl],by rw [h5,hl],h6,h7,hK k,hrow,fun q hq=>?_,?_⟩
 ·obtain⟨i,x,hi,a1⟩:=h9 _ (QaE.2 ⟨q,hq,rfl⟩)
  exact⟨i,x,hi,hk.inv _ _ _ _ a1⟩
 rcases MapKept.findNow_spec (hK k) es.toList 0 hks with⟨g1,g2⟩|⟨j,x,g1,g2,g3⟩
 ·refine .inl ⟨?_,g1,g2⟩
  cases hg:Q0 l k with
  | none=>rfl
  | some rs=>
   obtain⟨i,x,hi,a1⟩:=h9 (e k,rs) (QaE.2 ⟨(k,rs),QvD hg,rfl⟩)
   exact absurd (hk.inv _ _ _ _ a1) (g2 x (Qlo.2 ⟨i,by rw [Qq5];exact hi⟩))
 have g2':es[j]? = some x:=by simpa using g2
 obtain⟨E,hE⟩:=hbs j x g2'
 obtain⟨⟨a,rs⟩,hm,e1,_⟩:=hrow j x E g2' hE
 have:a=k:=hk.inj _ _ (by rw [<-e1,g3])
 subst this
 refine .inr ⟨j,x,E,rs,Qvq hn hm,by simpa using g1,g2',hE,g3,fun i y hy hyk=>?_⟩
 have i1:(es.toList.map (·.key))[i]? = some (val a):=by simp [Qak,hy,hyk]
 have i2:(es.toList.map (·.key))[j]? = some (val a):=by simp [Qak,g2',g3]
 exact(List.getElem?_inj (by simpa using (Qhr.1 hy).1) h2.2.2).1 (i1.trans i2.symm)
theorem QeW.of (hk:QgD P K e val){es:Array MapEntry}{clock:Nat}{bs:List (Option Blk)}(h1:w.heap[B.b]? = some (.map es clock))(h2:MapKept.Stamped es clock)(h3:(l.map Prod.fst).Nodup)(h4:es.size=l.length)
  (h5:bs.length=l.length) (h6:B.more=bs.filterMap (Option.map Blk.b)) (h7:(B.b::B.more).Nodup) (h8:∀(i:Nat) x E,es[i]? = some x->bs[i]? = some E->QyS I w z e val out l x E)
  (h9:∀q∈l,∃(i:Nat) (x:MapEntry),es[i]? = some x/\x.key=val q.1):QeW I w B z (Qsp e l) out:=by
 have hl:(Qsp e l).length=l.length:=by simp [Qsp]
 refine⟨es,clock,h1,h2,(QwD hk.einj).2 h3,by rw [h4,hl],bs,by rw [h5,hl],h6,h7,fun i x E hi hE=>?_,fun p hp=>?_⟩
 ·obtain⟨q,hq,a1,a2⟩:=h8 i x E hi hE
  exact⟨_,QaE.2 ⟨q,hq,rfl⟩,by rw [a1];exact hk.dat _ _ _,a2⟩
 obtain⟨q,hq,rfl⟩:=QaE.1 hp
 obtain⟨i,x,hi,a1⟩:=h9 q hq
 exact⟨i,x,hi,by rw [a1];exact hk.dat _ _ _⟩
end
section
variable {P:Program}{C:Ctx}{σ:St}{o:Oper}{φ:Nat->Option Blk}{a:Act}{w:World}{ops:Array Oper}{c:Code}{Q:Exit->St->Prop}
theorem RR.say' (h:RR C φ σ a w){b:Nat}{ob ob':Ob}(hb:look σ.hp b=some ob)(hs:∀B,φ b=some B->QbN φ (Imm C φ w) w B ob->QbN φ (Imm C φ w) w B ob')(hne:¬ob.Nil):RR C φ (σ.set b ob') a w:=by
 refine⟨h.os,h.tape,h.output,h.size,h.kept,h.inj,fun o B hB=>?_,h.lt,h.new,h.stay.set hb,h.tmps,h.defers,h.frame,fun o ob2 hob=>?_⟩
 ·by_cases e:o=b
  ·subst e;exact⟨_,σ.look_set_same _ _⟩
  obtain⟨ob,h1⟩:=h.dom o B hB;exact⟨ob,by rw [σ.look_set_other _ (Ne.symm e)];exact h1⟩
 by_cases e:o=b
 ·subst e;rw [σ.look_set_same]at hob;cases hob
  rcases h.heap o _ hb with⟨B,hB,hr⟩|⟨_,h2⟩
  ·exact .inl ⟨B,hB,hs B hB hr⟩
  exact absurd h2 hne
 rw [σ.look_set_other _ (Ne.symm e)]at hob;exact h.heap o ob2 hob
def QBW (P:Program)(T:TypeId):Bool:=match P.info? T with
 | some i=>match i.zero with
  | some (.slice none 0 0)=>true
  | _=>false
 | none=>false
theorem QBX {T:TypeId}(h:QBW P T=true):∃i,P.info? T=some i/\i.zero=some (.slice none 0 0):=by
 unfold QBW at h
 split at h
 ·rename_i i hi
  split at h
  ·rename_i hz;exact⟨i,hi,hz⟩
  cases h
 cases h
theorem Qmh.sl {T:TypeId}{z:Nat}(h:QBW P T=true):Qmh P T (.sl z []):=let ⟨i,h1,h2⟩:=QBX h;⟨i,_,h1,h2,fun _ _=>.sl0 _ _ _⟩
theorem Qmh.one {T:TypeId}{v:Value}(hi:((P.info? T).bind (·.zero))=some v):Qmh P T (Qgs v):=by
 obtain⟨i,h1,h2⟩:=QoJ.1 hi
 exact⟨i,v,h1,h2,fun _ _=>Dat.const v⟩
end
section
variable {P:Program}{C:Ctx}{σ:St}{o:Oper}{a:Act}{w:World}
end
end Go.Vm
namespace Go.Vm
open Go Go.RowKit
theorem Qc.toData {P:Program}{f:FuncId}{us:List V}{z:Nat}{rows:List (List V)}(h:Qc P f us [] (QtH z rows)):Qc P f us [] (fun v _=>v=.sl z rows):=by
 intro S φ w vals hi hG
 refine(h S φ w vals hi hG).mono ?_
 rintro e w' ⟨x,v,hs',φ',rfl,⟨o,rfl,hl⟩,ho⟩
 have hφ:∀o B,φ o≠some B:=fun o B hB=>by obtain⟨ob,h⟩:=(hi.dom o B hB).2.2;cases h
 have hA:∀k,Aft S φ' w w' k->Aft S (fun _=>none) w w' k:=fun k hk=>⟨hk.1,hk.2.1,fun _ _ h=>by cases h⟩
 refine⟨x,.sl z rows,[],fun _=>none,rfl,rfl,ho.os,ho.tape,ho.output,ho.size,ho.kept,fun _ _ _ _ _ h=>(by cases h),fun _ _ h=>(by cases h),fun _ _ _ h=>(by cases h),fun _ _ _ h=>(by cases h),⟨fun _ _ _ h=>(by cases h),fun _ _ _ _ h=>(by cases h)⟩,?_,fun _ _ h=>(by cases h)⟩
 rcases ho.heap o _ hl with⟨B,hB,hrep⟩|⟨hn,hz⟩
 ·rcases ho.rep.own_inv with⟨rfl,h0⟩|⟨B',hB',hcap,rfl⟩
  ·have:rows=[]:=Qmb.1 h0
   subst this;exact .dat (.sl0 _ _ _)
  rw [hB]at hB';cases hB'
  obtain⟨rfl,hrl,hok,cs,E,h1,h2,h3⟩:=hrep
  refine .dat (.sl B.b B.off rows.length B.cap B.z rows (fun j=>cs.getD (B.off+j) undef) ⟨(ho.lt o B B.b hB B.self).1,fun hlt=>?_,fun _ _ h=>by cases h⟩ rfl hcap hok (fun j hj=>?_) (fun i r hi j v hj=>?_))
  ·obtain⟨o',B',h4,_⟩:=(ho.lt o B B.b hB B.self).2 hlt
   exact absurd h4 (hφ _ _)
  ·have hle2:rows.length*B.z<=B.cap*B.z:=Qct _ hcap
   have:B.off+j<cs.size:=by omega
   simp [World.cell?,h1,Array.getD,this]
  obtain⟨y,hy,hd⟩:=h3 i r hi j v hj
  have:cs.getD (B.off+(i*B.z+j)) undef=y:=by simp [Qo0,hy]
  rw [this]
  exact hd.mono fun k hk=>⟨hA k hk,rfl⟩
 replace hz:rows=[]:=hz;subst hz
 rcases ho.rep.own_inv with⟨rfl,h0⟩|⟨B',hB',hcap,rfl⟩
 ·exact .dat (.sl0 _ _ _)
 rw [hn]at hB';cases hB'
structure Tab where
 ag:List (Nat×Bool)
 sz:List (Nat×Nat)
 fo:List (Nat×List Nat)
 sp:List (Nat×List (Nat×Nat))
 es:List (Nat×(Nat×Nat×Nat))
 ar:List (Nat×(Nat×Nat))
 zv:List (Nat×List V)
 sb:List Nat
 bo:List Nat
 cc:List Nat
 en:List Nat
def foB (P:Program)(t:Nat):List Nat->Nat->Bool
 | [],_=>true
 | off::r,i=>(match QjK P t i with | some k=>Nat.beq k off | none=>false)&&foB P t r (i+1)
def Tab.okB (P:Program)(T:Tab):Bool:=
 T.ag.all (fun p=>Qgp P p.1==some p.2)&&T.sz.all (fun p=>QgC P p.1==some p.2)&&T.fo.all (fun p=>foB P p.1 p.2 0)&&T.sp.all (fun p=>Qsf P p.1==some p.2) &&
 T.es.all (fun p=>Qav P p.1==some p.2)&&T.ar.all (fun p=>Qqq P p.1==some p.2)&&T.sb.all (QtE P)&&T.bo.all (Qwy P)&&T.cc.all (QuN P)&&T.en.all (Qq8 P)
structure QdJ (P:Program) (T:Tab):Prop where
 ag:∀{t b},look T.ag t=some b->Qgp P t=some b
 sz:∀{t b},look T.sz t=some b->QgC P t=some b
 fo:∀{t l},look T.fo t=some l->∀{i:Nat} {k:Nat},l[i]? = some k->QjK P t i=some k
 sp:∀{t b},look T.sp t=some b->Qsf P t=some b
 es:∀{t b},look T.es t=some b->Qav P t=some b
 ar:∀{t b},look T.ar t=some b->Qqq P t=some b
 zv:∀{t b},look T.zv t=some b->QaF P t=some b
 sb:∀{t},Qab T.sb t=true->QtE P t=true
 bo:∀{t},Qab T.bo t=true->Qwy P t=true
 cc:∀{t},Qab T.cc t=true->QuN P t=true
 en:∀{t},Qab T.en t=true->Qq8 P t=true
theorem QCT {P:Program}{t:Nat}:∀{l:List Nat} {j:Nat},foB P t l j=true->∀{i k:Nat},l[i]? = some k->QjK P t (j+i)=some k:=by
 intro l
 induction l with
 | nil=>intro j _ i k h;simp at h
 | cons off r ih=>
  intro j h i k hk
  rw [foB,QB]at h
  cases i with
  | zero=>
   simp at hk;subst hk
   have:=h.1
   split at this
   ·rename_i k' hk';rw [Qlq,hk',QaL this]
   cases this
  | succ i=>simp at hk;have:=ih h.2 hk;rwa [show j+(i+1)=j+1+i by omega]
theorem Tab.ok {P:Program}{T:Tab}(h:T.okB P=true)(hz:∀p∈T.zv,QaF P p.1=some p.2):QdJ P T:=by
 simp only [Tab.okB,QB,Qad,beq_iff_eq]at h
 obtain⟨⟨⟨⟨⟨⟨⟨⟨⟨h1,h2⟩,h3⟩,h4⟩,h5⟩,h6⟩,h7⟩,h8⟩,h9⟩,h10⟩:=h
 exact⟨fun e=>h1 _ (Qbi e),fun e=>h2 _ (Qbi e),fun e i k hk=>by have:=QCT (h3 _ (Qbi e)) hk;rwa [Qlr]at this,fun e=>h4 _ (Qbi e),
  fun e=>h5 _ (Qbi e),fun e=>h6 _ (Qbi e),fun e=>hz _ (Qbi e),fun e=>h7 _ (QjL.1 e),fun e=>h8 _ (QjL.1 e),fun e=>h9 _ (QjL.1 e),fun e=>h10 _ (QjL.1 e)⟩
inductive Qel where
 | d
 | n (z:Nat)
 | o (us:List (List V))
 | f (n:Nat)
 | t (b:Nat)
inductive Qc4 where
 | no
 | row (r:List V)
 | ix
 | rows (rs:List (List V))
 | ln (n:Nat)
 | num (r:Int)
 | bd (ms:List (Option Nat))
 | c (g:Bool) (ms:List Qel) (r:V)
 | co (g:Bool) (ms:List Qel) (z:Nat) (rows:List (List V)) (m:Nat)
 | cd (g:Bool) (ms:List Qel) (z:Nat) (rows:List (List V)) (m:Nat)
 | cdn (β:Nat) (g:Bool) (ms:List Qel) (z:Nat) (rows:List (List V)) (m:Nat)
 | cb (β:Nat) (g:Bool) (ms:List Qel) (r:V)
 | cob (β:Nat) (g:Bool) (ms:List Qel) (z:Nat) (rows:List (List V)) (m:Nat)
 | any (v:V) (ob:Option Ob)
structure Rs where
 v:V
 ob:Option Ob
 φ:Option Prop
def Rs.holds (r:Rs):Prop:=match r.φ with
 | none=>True
 | some p=>p
def evs (f:Operand->Option V):List Operand->Option (List V)
 | []=>some []
 | x::r=>match f x with
  | some v=>match evs f r with
   | some vs=>some (v::vs)
   | none=>none
  | none=>none
def evp (f:Operand->Option V):List (Nat×Operand)->Option (List (Nat×V))
 | []=>some []
 | (i,x)::r=>match f x with
  | some v=>match evp f r with
   | some vs=>some ((i,v)::vs)
   | none=>none
  | none=>none
def Qz5 (hp:Nat->Option Ob)(g:Bool)(m:Qel)(v:V):Option (V×Option Prop):=match m with
 | .d=>bif v.datA then some (v,none)else none
 | .n z=>match v with
  | .lit (.slice none 0 0)=>some (.sl z [],none)
  | _=>none
 | .o us=>match v with
  | .own b n=>match hp b with
   | some (.arr z rs)=>bif g then some (.sl z us,some (n<=rs.length/\rs.take n=us))else none
   | _=>none
  | _=>none
 | .f _=>none
 | .t b=>match v with
  | .lit x=>match hp b with
   | some (.nst y u)=>bif g then some (u,some (x=y))else none
   | _=>none
  | _=>none
def QEs (φ:Option Prop)(p:Prop):Prop:=match φ with
 | none=>p
 | some q=>q/\p
def Qmi (hp:Nat->Option Ob)(g:Bool):List Qel->List V->Option (List V×(Prop->Prop))
 | [],[]=>some ([],id)
 | m::ms,v::vs=>match Qz5 hp g m v with
  | some (u,φ)=>match Qmi hp g ms vs with
   | some (us,k)=>some (u::us,fun p=>QEs φ (k p))
   | none=>none
  | none=>none
 | _,_=>none
def ikB : IntKind->IntKind->Bool
 | .i8,.i8 | .i16,.i16 | .i32,.i32 | .i64,.i64 | .u8,.u8 | .u16,.u16 | .u32,.u32 | .u64,.u64=>true
 | _,_=>false
theorem QyT {a b:IntKind}(h:ikB a b=true):a=b:=by cases a<;>cases b<;>first | rfl | cases h
def QBY (T:Tab)(op:BinOp)(Tx:TypeId):V->V->Option Rs
 | .i k m,.i k' n=>bif ikB k k' then match op with
  | .quo=>some ⟨.i k (k.wrap (m.tdiv n)),none,some (n≠0)⟩
  | .rem=>some ⟨.i k (m.tmod n),none,some (n≠0)⟩
  | op=>match Qz0 op k m n with
   | some v=>some ⟨v,none,none⟩
   | none=>none
  else none
 | .b m,.b n=>bif Qab T.bo Tx then match op with
  | .eql=>some ⟨.b (m==n),none,none⟩
  | .neq=>some ⟨.b (m != n),none,none⟩
  | _=>none
  else none
 | .s m,.s n=>match op with
  | .eql=>some ⟨.b (QbW m n),none,none⟩
  | .neq=>some ⟨.b (!QbW m n),none,none⟩
  | _=>none
 | _,_=>none
def unV (op:UnOp):V->Option Rs
 | .b t=>match op with
  | .not=>some ⟨.b (!t),none,none⟩
  | _=>none
 | .i k m=>match op with
  | .neg=>some ⟨.i k (k.wrap (0-m)),none,none⟩
  | _=>none
 | _=>none
def QtN (T:Tab)(Tx:TypeId)(cs:List V)(off:Nat)(φ:Option Prop):Option Rs:=
 match look T.ag Tx with
 | some true=>match look T.sz Tx with
  | some n=>bif Nat.ble (off+n) cs.length then some ⟨.agg ((cs.drop off).take n),none,φ⟩else none
  | none=>none
 | some false=>match cs[off]? with
  | some v=>some ⟨v,none,φ⟩
  | none=>none
 | none=>none
def Qz6 (T:Tab)(h:Qc4)(Tx:TypeId)(hp:Nat->Option Ob):V->Option Rs
 | .loc b i off=>match hp b with
  | some (.var cs)=>match i with
   | 0=>QtN T Tx cs off none
   | _=>none
  | some (.arr _ rs)=>match h with
   | .row r=>QtN T Tx r off (some (rs[i]? = some r))
   | _=>none
  | _=>none
 | .ro cs=>QtN T Tx cs 0 none
 | _=>none
def QyU (T:Tab)(Tx:TypeId)(i:Nat):V->Option Rs
 | .loc b k off=>match look T.fo Tx with
  | some l=>match l[i]? with
   | some n=>some ⟨.loc b k (off+n),none,none⟩
   | none=>none
  | none=>none
 | .ro cs=>match look T.fo Tx with
  | some l=>match l[i]? with
   | some n=>some ⟨.ro (cs.drop n),none,none⟩
   | none=>none
  | none=>none
 | _=>none
def QyV (T:Tab)(h:Qc4)(Tx:TypeId)(hp:Nat->Option Ob):V->V->Option Rs
 | .sl z rows,.i _ j=>match look T.es Tx with
  | some p=>match h with
   | .row r=>bif Nat.beq z p.2.1 then some ⟨.ro r,none,some (0<=j/\rows[j.toNat]? = some r)⟩else none
   | _=>none
  | none=>none
 | .own b n,.i _ j=>match look T.es Tx with
  | some p=>match hp b with
   | some (.arr z _)=>bif Nat.beq z p.2.1 then some ⟨.loc b j.toNat 0,none,some (0<=j/\j<(n:Int))⟩else none
   | _=>none
  | none=>none
 | .loc b i m,.i _ j=>match look T.ar Tx with
  | some p=>bif decide (0<=j)&&decide (j<(p.1:Int))then some ⟨.loc b i (m+j.toNat*p.2),none,none⟩else none
  | none=>none
 | .ro cs,.i _ j=>match look T.ar Tx with
  | some p=>bif decide (0<=j)&&decide (j<(p.1:Int))then some ⟨.ro (cs.drop (j.toNat*p.2)),none,none⟩else none
  | none=>none
 | _,_=>none
def QBZ (T:Tab)(h:Qc4)(Tx:TypeId):V->Option Rs
 | .sl _ rows=>bif (look T.es Tx).isSome then match h with
  | .ln m=>some ⟨.i .i64 m,none,some (rows.length=m)⟩
  | _=>some ⟨.i .i64 rows.length,none,none⟩
  else none
 | .own _ n=>bif (look T.es Tx).isSome then some ⟨.i .i64 n,none,none⟩else none
 | .lit (.slice none 0 0)=>bif (look T.es Tx).isSome then some ⟨.i .i64 0,none,none⟩else none
 | .s s=>bif Qab T.sb Tx then some ⟨.i .i64 s.size,none,none⟩else none
 | _=>none
def mkV (T:Tab)(h:Qc4)(Tx d:TypeId):V->V->Option Rs
 | .i _ l,.i _ c=>match look T.es Tx with
  | some p=>match look T.zv p.1 with
   | some zs=>match h with
    | .rows rs=>bif Nat.beq zs.length p.2.1&&!(Nat.beq p.2.1 0)&&zs.all V.one&&Nat.ble p.2.2 32768 then
     some ⟨.own d l.toNat,some (.arr p.2.1 rs),some ((decide (0<=l)&&decide (l<=c)&&decide (c<=4294967296))=true/\List.replicate l.toNat zs=rs)⟩else none
    | _=>none
   | none=>none
  | none=>none
 | _,_=>none
def mmV (mx:Bool):V->V->Option Rs
 | .i k m,.i k' n=>bif ikB k k' then bif mx then some ⟨.i k (Vm.max2 m n),none,none⟩else some ⟨.i k (Vm.min2 m n),none,none⟩else none
 | _,_=>none
def QyH (P:Program)(C:Ctx)(T:Tab)(h:Qc4)(hp:Nat->Option Ob)(d fn:Nat)(vs:List V):Option Rs:=
 bif Qab T.en fn then match h with
 | .c g ms r=>match Qmi hp g ms vs with
  | some (us,k)=>bif (!g&&r.datA)||r.scaA then some ⟨r,none,some (k (Qc P fn us [] (Gives r [])))⟩else none
  | none=>none
 | .co g ms z rows m=>match Qmi hp g ms vs with
  | some (us,k)=>some ⟨.own d m,some (.arr z rows),some (k (Qc P fn us [] (Gives (.own 600 m) [(600,.arr z rows)])/\rows.length=m/\(g=false\/∀r∈rows,∀v∈r,v.sca=true)))⟩
  | none=>none
 | .cd g ms z rows m=>match Qmi hp g ms vs with
  | some (us,k)=>bif !g then some ⟨.sl z rows,none,some (k (Qc P fn us [] (Gives (.own 600 m) [(600,.arr z rows)])/\rows.length=m))⟩else none
  | none=>none
 | .cdn β g ms z rows m=>match Qmi hp g ms vs with
  | some (us,k)=>bif !g then some ⟨.sln β z rows,none,some (k (Qc P fn us [] (Gives (.own 600 m) [(600,.arr z rows)])/\rows.length=m/\β<=C.w0.heap.size))⟩else none
  | none=>none
 | .cb β g ms r=>match Qmi hp g ms vs with
  | some (us,k)=>bif (!g&&r.datA)||r.scaA then some ⟨r,none,some (k (Qai β P fn us [] (Gives r [])/\β<=C.w0.heap.size))⟩else none
  | none=>none
 | .cob β g ms z rows m=>match Qmi hp g ms vs with
  | some (us,k)=>some ⟨.own d m,some (.arr z rows),some (k (Qai β P fn us [] (Gives (.own 600 m) [(600,.arr z rows)])/\rows.length=m/\(g=false\/∀r∈rows,∀v∈r,v.sca=true)/\β<=C.w0.heap.size))⟩
  | none=>none
 | _=>none
 else none
def ev1 (P:Program)(C:Ctx)(T:Tab)(h:Qc4)(o:Oper)(d:Nat)(f:Operand->Option V)(hp:Nat->Option Ob):Option Rs:=
 match h with
 | .any v ob=>some ⟨v,ob,some (∀σ:St,(∀x u,f x=some u->σ.opd x=some u)->(∀b u,hp b=some u->look σ.hp b=some u)->(ob.isSome=true->look σ.hp d=none)->Stp P C o σ (σ.addF ⟨d,v,ob⟩))⟩
 | h=>match o.op with
  | .move x=>match f x with
   | some v=>some ⟨v,none,none⟩
   | none=>none
  | .assign x=>match f x with
   | some v=>some ⟨v,none,none⟩
   | none=>none
  | .pick c a b=>match f c with
   | some (.b true)=>match f a with
    | some v=>some ⟨v,none,none⟩
    | none=>none
   | some (.b false)=>match f b with
    | some v=>some ⟨v,none,none⟩
    | none=>none
   | _=>none
  | .binOp op Tx x y _=>match f x with
   | some v=>match f y with
    | some u=>QBY T op Tx v u
    | none=>none
   | none=>none
  | .unOp op _ x=>match f x with
   | some v=>unV op v
   | none=>none
  | .alloc Tx=>match look T.zv Tx with
   | some zs=>some ⟨.loc d 0 0,some (.var zs),none⟩
   | none=>none
  | .box _ x=>match f x with
   | some (.agg cs)=>some ⟨.loc d 0 0,some (.var cs),none⟩
   | some v=>bif v.one then some ⟨.loc d 0 0,some (.var [v]),none⟩else none
   | none=>none
  | .load Tx x=>match f x with
   | some v=>Qz6 T h Tx hp v
   | none=>none
  | .fieldAddr Tx x i=>match f x with
   | some v=>QyU T Tx i v
   | none=>none
  | .indexAddr Tx x y=>match f x with
   | some v=>match f y with
    | some u=>QyV T h Tx hp v u
    | none=>none
   | none=>none
  | .build Tx parts=>match evp f parts.toList with
   | some qs=>match look T.zv Tx with
    | some zs=>bif qs.all (fun q=>q.2.isV)then match look T.sp Tx with
      | some pl=>match Qfw (pl[·]?) zs qs with
       | some vs=>some ⟨.agg vs,none,none⟩
       | none=>none
      | none=>match look T.ar Tx with
       | some p=>match Qfw (fun i=>some (i*p.2,p.2)) zs qs with
        | some vs=>some ⟨.agg vs,none,none⟩
        | none=>none
       | none=>none
     else none
    | none=>none
   | none=>none
  | .buildSlice Tx n parts=>match evp f parts.toList with
   | some qs=>match look T.es Tx with
    | some p=>match look T.zv p.1 with
     | some zs=>bif qs.all (fun q=>q.2.isV)&&Nat.beq zs.length p.2.1&&!(Nat.beq p.2.1 0)&&Nat.ble (n*p.2.1) 16777216 then
      match Qfw (fun i=>some (i*p.2.1,p.2.1)) ((List.range (n*p.2.1)).map fun k=>zs.getD (k % p.2.1) .J) qs with
      | some vs=>match h with
       | .bd ms=>bif (QdU ms vs).all V.one&&(QdU ms vs).all V.dat then some ⟨.sl p.2.1 (Qiu p.2.1 n (QdU ms vs)),none,none⟩else none
       | _=>bif vs.all V.one&&vs.all V.dat then some ⟨.own d n,some (.arr p.2.1 (Qiu p.2.1 n vs)),none⟩else none
      | none=>none
      else none
     | none=>none
    | none=>none
   | none=>none
  | .extract x i=>match f x with
   | some (.tup vs)=>match vs[i]? with
    | some v=>some ⟨v,none,none⟩
    | none=>none
   | _=>none
  | .nilCheck x=>match f x with
   | some (.loc b i k)=>some ⟨.loc b i k,none,none⟩
   | _=>none
  | .makeInterface Tx x=>match f x with
   | some v=>bif Qab T.cc Tx then some ⟨.ifc Tx v,none,none⟩else none
   | none=>none
  | .typeAssert x _ Tx false=>match f x with
   | some (.ifc t v)=>bif Nat.beq t Tx&&Qab T.cc Tx then some ⟨v,none,none⟩else none
   | _=>none
  | .makeFunc fn first caps=>match evs f first.toList with
   | some vs=>match evs f caps.toList with
    | some us=>some ⟨.clo fn vs us,none,none⟩
    | none=>none
   | none=>none
  | .index Tx x y=>match f x with
   | some (.s s)=>match f y with
    | some (.i _ j)=>match h with
     | .num r=>bif Qab T.sb Tx then some ⟨.i .u8 r,none,some (sidx s j=some r)⟩else none
     | _=>none
    | _=>none
   | _=>none
  | .makeSlice Tx x y=>match f x with
   | some v=>match f y with
    | some u=>mkV T h Tx d v u
    | none=>none
   | none=>none
  | .makeMap _ none=>some ⟨.map d,some (.map []),none⟩
  | .call c=>match c.callee with
   | .builtin .max=>match c.args.toList with
    | [x,y]=>match f x with
     | some v=>match f y with
      | some u=>mmV true v u
      | none=>none
     | none=>none
    | _=>none
   | .builtin .min=>match c.args.toList with
    | [x,y]=>match f x with
     | some v=>match f y with
      | some u=>mmV false v u
      | none=>none
     | none=>none
    | _=>none
   | .builtin .len=>match c.args.toList with
    | [x]=>match c.argTypes.toList with
     | [Tx]=>match f x with
      | some v=>QBZ T h Tx v
      | none=>none
     | _=>none
    | _=>none
   | .value x=>match f x with
    | some (.clo (.func fn) fs cs)=>match evs f c.args.toList with
     | some vs=>QyH P C T h hp d fn (fs++(vs++cs))
     | none=>none
    | _=>none
   | _=>none
  | _=>none
section
variable {P:Program}{C:Ctx}{T:Tab}{o:Oper}{d:Nat}{f:Operand->Option V}{hp:Nat->Option Ob}{σ:St}
theorem QfU (h1:∀x u,f x=some u->σ.opd x=some u):∀{l:List Operand} {vs:List V},evs f l=some vs->σ.opsV l=some vs:=by
 intro l
 induction l with
 | nil=>intro vs h;exact h
 | cons x l ih=>
  intro vs h
  rw [evs]at h
  split at h
  ·rename_i v hv
   split at h
   ·rename_i us hus
    cases h
    simp only [St.opsV,h1 _ _ hv,ih hus]
   cases h
  cases h
theorem QfV (h1:∀x u,f x=some u->σ.opd x=some u):∀{l:List (Nat×Operand)} {vs:List (Nat×V)},evp f l=some vs->σ.opds l=some vs:=by
 intro l
 induction l with
 | nil=>intro vs h;exact h
 | cons x l ih=>
  intro vs h
  obtain⟨i,x⟩:=x
  rw [evp]at h
  split at h
  ·rename_i v hv
   split at h
   ·rename_i us hus
    cases h
    simp only [St.opds,h1 _ _ hv,ih hus]
   cases h
  cases h
theorem Qaf {α:Type _}{c:Bool}{x:Option α}{r:α}(h:(bif c then x else none)=some r):c=true/\x=some r:=by
 cases c with
 | true=>exact⟨rfl,h⟩
 | false=>cases h
theorem Qvr (h2:∀b u,hp b=some u->look σ.hp b=some u){g:Bool}{m:Qel}{v u:V}{φ:Option Prop}(h:Qz5 hp g m v=some (u,φ))(hφ:(match φ with | none=>True | some p=>p)):QmZ σ.hp g v u:=by
 unfold Qz5 at h
 cases m with
 | d=>obtain⟨hd,h⟩:=Qaf h;cases h;exact .dat _ hd
 | n z=>
  dsimp only at h
  split at h
  ·cases h;exact .nil _
  cases h
 | o us=>
  dsimp only at h
  split at h
  ·dsimp only at h
   split at h
   ·rename_i z rs hb
    obtain⟨hg,h⟩:=Qaf h;subst hg;cases h;exact .own _ _ _ _ _ rfl (h2 _ _ hb) hφ.1 hφ.2
   cases h
  cases h
 | f n=>cases h
 | t b=>
  dsimp only at h
  split at h
  ·dsimp only at h
   split at h
   ·rename_i y u hb
    obtain⟨hg,h⟩:=Qaf h;subst hg;cases h
    have hφ:_=_:=hφ
    subst hφ
    exact .nst _ _ _ rfl (h2 _ _ hb)
   cases h
  cases h
theorem Qht (h2:∀b u,hp b=some u->look σ.hp b=some u){g:Bool}:∀{ms:List Qel} {vs us:List V} {k:Prop->Prop},Qmi hp g ms vs=some (us,k)->∀{p:Prop},k p->Qls σ.hp g vs us/\p:=by
 intro ms
 induction ms with
 | nil=>
  intro vs us k h p hk
  cases vs with
  | nil=>cases h;exact⟨.nil,hk⟩
  | cons=>cases h
 | cons m ms ih=>
  intro vs us k h p hk
  cases vs with
  | nil=>cases h
  | cons v vs=>
   rw [Qmi]at h
   split at h
   ·rename_i u φ hu
    split at h
    ·rename_i us' k' hus
     cases h
     cases φ with
     | none=>obtain⟨a,b⟩:=ih hus hk;exact⟨.cons (Qvr h2 hu trivial) a,b⟩
     | some q=>obtain⟨a,b⟩:=ih hus hk.2;exact⟨.cons (Qvr h2 hu hk.1) a,b⟩
    cases h
   cases h
theorem Qsq {Tx:TypeId}{cs:List V}{off:Nat}{φ:Option Prop}{r:Rs}(ok:QdJ P T)(h:QtN T Tx cs off φ=some r):
  r.ob=none/\r.φ=φ/\((Qgp P Tx=some true/\∃n,QgC P Tx=some n/\Nat.ble (off+n) cs.length=true/\r.v=.agg ((cs.drop off).take n))\/(Qgp P Tx=some false/\cs[off]? = some r.v)):=by
 unfold QtN at h
 split at h
 ·rename_i hg
  split at h
  ·rename_i n hn
   obtain⟨h1,h⟩:=Qaf h
   cases h
   exact⟨rfl,rfl,.inl ⟨ok.ag hg,n,ok.sz hn,h1,rfl⟩⟩
  cases h
 ·rename_i hg
  split at h
  ·rename_i v hv
   cases h
   exact⟨rfl,rfl,.inr ⟨ok.ag hg,hv⟩⟩
  cases h
 cases h
def QaD (P:Program)(C:Ctx)(o:Oper)(d:Nat)(r:Rs)(σ:St):Prop:=Stp P C o σ (σ.addF ⟨d,r.v,r.ob⟩)
theorem QaD.put {r:Rs}(ho:r.ob=none)(h:Stp P C o σ (σ.put d r.v)):QaD P C o d r σ:=by
 obtain⟨v,ob,φ⟩:=r
 cases ho
 exact h
theorem Qzz {h:Qc4}{Tx:TypeId}{x:Operand}{v:V}{r:Rs}(ok:QdJ P T)(ho:o.op=.load Tx x)(hd:o.dst=some d)(hn:Nat.ble (d+1) C.n=true)(hx:σ.opd x=some v)
  (h2:∀b u,hp b=some u->look σ.hp b=some u) (e:Qz6 T h Tx hp v=some r) (hφ:r.holds):QaD P C o d r σ:=by
 unfold Qz6 at e
 split at e
 ·rename_i b i off
  split at e
  ·rename_i cs hb
   split at e
   ·obtain⟨e1,e2,⟨e3,n,e4,e5,e6⟩|⟨e3,e4⟩⟩:=Qsq ok e
    ·refine QaD.put e1 ?_;rw [e6];exact Stp.loadAL ho hd hn hx (h2 _ _ hb) e3 e4 e5 rfl
    exact QaD.put e1 (Stp.load1L ho hd hn hx (h2 _ _ hb) e3 e4)
   cases e
  ·rename_i z rs hb
   split at e
   ·rename_i r'
    obtain⟨e1,e2,⟨e3,n,e4,e5,e6⟩|⟨e3,e4⟩⟩:=Qsq ok e
    ·rw [Rs.holds,e2]at hφ;refine QaD.put e1 ?_;rw [e6];exact Stp.loadAA ho hd hn hx (h2 _ _ hb) e3 e4 hφ e5 rfl
    rw [Rs.holds,e2]at hφ;exact QaD.put e1 (Stp.load1A ho hd hn hx (h2 _ _ hb) e3 hφ e4)
   cases e
  cases e
 ·rename_i cs
  obtain⟨e1,e2,⟨e3,n,e4,e5,e6⟩|⟨e3,e4⟩⟩:=Qsq ok e
  ·refine QaD.put e1 ?_;rw [e6];rw [Qlr]at e5;exact Stp.loadAR ho hd hn hx e3 e4 e5 rfl
  exact QaD.put e1 (Stp.load1R ho hd hn hx e3 e4)
 cases e
theorem Qz7 {op:BinOp}{Tx Ty:TypeId}{x y:Operand}{v u:V}{r:Rs}(ok:QdJ P T)(ho:o.op=.binOp op Tx x y Ty)(hd:o.dst=some d)(hn:Nat.ble (d+1) C.n=true)(hx:σ.opd x=some v)(hy:σ.opd y=some u)
  (e:QBY T op Tx v u=some r) (hφ:r.holds):QaD P C o d r σ:=by
 unfold QBY at e
 split at e
 ·rename_i k m k' n
  replace e:=Qaf e;obtain⟨e1,e⟩:=e
  have:=QyT e1;subst this
  split at e
  ·cases e;exact QaD.put rfl (Stp.divi ho hd hn hx hy hφ (.inl ⟨rfl,rfl⟩))
  ·cases e;exact QaD.put rfl (Stp.divi ho hd hn hx hy hφ (.inr ⟨rfl,rfl⟩))
  split at e
  ·rename_i w hw;cases e;exact QaD.put rfl (Stp.bin ho hd hn hx hy hw)
  cases e
 ·replace e:=Qaf e;obtain⟨e1,e⟩:=e
  split at e
  ·cases e;exact QaD.put rfl (Stp.eqB ho hd hn hx hy (ok.bo e1) (.inl ⟨rfl,rfl⟩))
  ·cases e;exact QaD.put rfl (Stp.eqB ho hd hn hx hy (ok.bo e1) (.inr ⟨rfl,rfl⟩))
  cases e
 ·split at e
  ·cases e;exact QaD.put rfl (Stp.eqS ho hd hn hx hy (.inl ⟨rfl,rfl⟩))
  ·cases e;exact QaD.put rfl (Stp.eqS ho hd hn hx hy (.inr ⟨rfl,rfl⟩))
  cases e
 cases e
theorem QyW {Tx:TypeId}{i:Nat}{x:Operand}{v:V}{r:Rs}(ok:QdJ P T)(ho:o.op=.fieldAddr Tx x i)(hd:o.dst=some d)(hn:Nat.ble (d+1) C.n=true)(hx:σ.opd x=some v)
  (e:QyU T Tx i v=some r):QaD P C o d r σ:=by
 unfold QyU at e
 split at e
 ·split at e
  ·rename_i l hl
   split at e
   ·rename_i n hn';cases e;exact QaD.put rfl (Stp.fieldL ho hd hn hx (ok.fo hl hn'))
   cases e
  cases e
 ·split at e
  ·rename_i l hl
   split at e
   ·rename_i n hn';cases e;exact QaD.put rfl (Stp.fieldR ho hd hn hx (ok.fo hl hn') rfl)
   cases e
  cases e
 cases e
theorem QyX {h:Qc4}{Tx:TypeId}{x y:Operand}{v u:V}{r:Rs}(ok:QdJ P T)(ho:o.op=.indexAddr Tx x y)(hd:o.dst=some d)(hn:Nat.ble (d+1) C.n=true)(hx:σ.opd x=some v)(hy:σ.opd y=some u)
  (h2:∀b u,hp b=some u->look σ.hp b=some u) (e:QyV T h Tx hp v u=some r) (hφ:r.holds):QaD P C o d r σ:=by
 unfold QyV at e
 split at e
 ·split at e
  ·rename_i p hp'
   split at e
   ·replace e:=Qaf e;obtain⟨e1,e⟩:=e
    obtain⟨pe,pz,pb⟩:=p
    have:=QaL e1;dsimp only at this;subst this
    cases e;exact QaD.put rfl (Stp.idxS ho hd hn hx hy (ok.es hp') hφ.1 hφ.2)
   cases e
  cases e
 ·split at e
  ·rename_i p hp'
   split at e
   ·rename_i z rs hb
    replace e:=Qaf e;obtain⟨e1,e⟩:=e
    obtain⟨pe,pz,pb⟩:=p
    have:=QaL e1;dsimp only at this;subst this
    cases e;exact QaD.put rfl (Stp.idxO ho hd hn hx hy (ok.es hp') (h2 _ _ hb) hφ.1 hφ.2)
   cases e
  cases e
 ·split at e
  ·rename_i p hp'
   replace e:=Qaf e;obtain⟨e1,e⟩:=e
   rw [QB,QQ,QQ]at e1
   cases e;exact QaD.put rfl (Stp.idxAL ho hd hn hx hy (ok.ar hp') e1.1 e1.2 rfl)
  cases e
 ·split at e
  ·rename_i p hp'
   replace e:=Qaf e;obtain⟨e1,e⟩:=e
   rw [QB,QQ,QQ]at e1
   cases e;exact QaD.put rfl (Stp.idxAR ho hd hn hx hy (ok.ar hp') e1.1 e1.2 rfl)
  cases e
 cases e
theorem Qz8 {h:Qc4}{Tx:TypeId}{x:Operand}{v:V}{r:Rs}(ok:QdJ P T)(ho:o.op=.call { callee:=.builtin .len,args:=#[x],argTypes:=#[Tx] })(hd:o.dst=some d)(hn:Nat.ble (d+1) C.n=true)(hx:σ.opd x=some v)
  (e:QBZ T h Tx v=some r) (hφ:r.holds):QaD P C o d r σ:=by
 have es:∀{t:Nat},(look T.es t).isSome=true->∃p,Qav P t=some p:=fun {t} h=>by
  cases hl:look T.es t with
  | none=>rw [hl]at h;cases h
  | some p=>exact⟨p,ok.es hl⟩
 unfold QBZ at e
 split at e
 ·replace e:=Qaf e;obtain⟨e1,e⟩:=e;obtain⟨p,hp'⟩:=es e1
  split at e
  ·cases e;exact QaD.put rfl (Stp.lenS' ho hd hn hx hp' hφ)
  cases e;exact QaD.put rfl (Stp.lenS ho hd hn hx hp')
 ·replace e:=Qaf e;obtain⟨e1,e⟩:=e;obtain⟨p,hp'⟩:=es e1;cases e;exact QaD.put rfl (Stp.lenO ho hd hn hx hp')
 ·replace e:=Qaf e;obtain⟨e1,e⟩:=e;obtain⟨p,hp'⟩:=es e1;cases e;exact QaD.put rfl (Stp.lenN ho hd hn hx hp')
 ·replace e:=Qaf e;obtain⟨e1,e⟩:=e;cases e;exact QaD.put rfl (Stp.lenStr ho hd hn hx (ok.sb e1))
 cases e
theorem Qx9 {mx:Bool}{x y:Operand}{v u:V}{ts:Array TypeId}{r:Rs}(ho:o.op=.call { callee:=.builtin (if mx then .max else .min),args:=#[x,y],argTypes:=ts })(hd:o.dst=some d)(hn:Nat.ble (d+1) C.n=true)(hx:σ.opd x=some v)(hy:σ.opd y=some u)
  (e:mmV mx v u=some r):QaD P C o d r σ:=by
 unfold mmV at e
 split at e
 ·replace e:=Qaf e;obtain⟨e1,e⟩:=e
  have:=QyT e1;subst this
  cases mx with
  | true=>cases e;exact QaD.put rfl (Stp.max2 ho hd hn hx hy)
  | false=>cases e;exact QaD.put rfl (Stp.min2 ho hd hn hx hy)
 cases e
theorem QA1 {h:Qc4}{Tx:TypeId}{x y:Operand}{v u:V}{r:Rs}(ok:QdJ P T)(ho:o.op=.makeSlice Tx x y)(hd:o.dst=some d)(hn:Nat.ble (d+1) C.n=true)(hx:σ.opd x=some v)(hy:σ.opd y=some u)
  (e:mkV T h Tx d v u=some r) (hφ:r.holds) (hf:r.ob.isSome=true->look σ.hp d=none):QaD P C o d r σ:=by
 unfold mkV at e
 split at e
 ·split at e
  ·rename_i p hp'
   split at e
   ·rename_i zs hz
    split at e
    ·replace e:=Qaf e;obtain⟨e1,e⟩:=e
     simp only [QB,Qe4]at e1
     obtain⟨⟨⟨a1,a2⟩,a3⟩,a4⟩:=e1
     cases e
     exact Stp.make' ho hd hn hx hy (ok.es hp') (ok.zv hz) (QaL a1) (fun h0=>by rw [h0]at a2;cases a2) a3 hφ.1 a4 (hf rfl) hφ.2
    cases e
   cases e
  cases e
 cases e
theorem Gives.own {fn:Nat}{us:List V}{z m:Nat}{rows:List (List V)}(h:Qc P fn us [] (Gives (.own 600 m) [(600,.arr z rows)]))(hm:rows.length=m):Qc P fn us [] (QtH z rows):=
 h.mono fun v hs ⟨a,b⟩=>⟨600,by rw [a,hm],b _ _ rfl⟩
theorem Gives.ownB {β:Nat}{fn:Nat}{us:List V}{z m:Nat}{rows:List (List V)}(h:Qai β P fn us [] (Gives (.own 600 m) [(600,.arr z rows)]))(hm:rows.length=m):Qai β P fn us [] (QtH z rows):=
 h.mono fun v hs ⟨a,b⟩=>⟨600,by rw [a,hm],b _ _ rfl⟩
theorem Qai.toData {P:Program}{β:Nat}{f:FuncId}{us:List V}{m z:Nat}{rows:List (List V)}(h:Qai β P f us [] (Gives (.own 600 m) [(600,.arr z rows)]))(hm:rows.length=m):Qai β P f us [] (Gives (.sln β z rows) []):=by
 subst hm
 intro S φ w vals hβ hi hG
 refine(h S φ w vals hβ hi hG).mono ?_
 rintro e w' ⟨x,v,hs',φ',rfl,⟨rfl,hl⟩,ho⟩
 have hl:=hl 600 _ rfl
 have hφ:∀o B,φ o≠some B:=fun o B hB=>by obtain⟨ob,h⟩:=(hi.dom o B hB).2.2;cases h
 have hA:∀k,Aft S φ' w w' k->Aft S (fun _=>none) w w' k:=fun k hk=>⟨hk.1,hk.2.1,fun _ _ h=>by cases h⟩
 refine⟨x,.sln β z rows,[],fun _=>none,rfl,⟨rfl,fun _ _ h=>by cases h⟩,ho.os,ho.tape,ho.output,ho.size,ho.kept,fun _ _ _ _ _ h=>(by cases h),fun _ _ h=>(by cases h),fun _ _ _ h=>(by cases h),fun _ _ _ h=>(by cases h),⟨fun _ _ _ h=>(by cases h),fun _ _ _ _ h=>(by cases h)⟩,?_,fun _ _ h=>(by cases h)⟩
 rcases ho.heap 600 _ hl with⟨B,hB,hrep⟩|⟨hn,hz⟩
 ·rcases ho.rep.own_inv with⟨rfl,h0⟩|⟨B',hB',hcap,rfl⟩
  ·have:rows=[]:=Qmb.1 h0
   subst this;exact .dat (.sln0 _ _ _ _)
  rw [hB]at hB';cases hB'
  obtain⟨rfl,hrl,hok,cs,E,h1,h2,h3⟩:=hrep
  have hnew:=ho.new _ B B.b hB B.self (by decide)
  have hle2:rows.length*B.z<=B.cap*B.z:=Qct _ hcap
  refine .dat (.sln β B.b B.off rows.length B.cap B.z rows cs E (QbM hβ hnew) ⟨(ho.lt _ B B.b hB B.self).1,fun hlt=>by omega,fun _ _ h=>by cases h⟩ rfl hcap hok h1 (by omega) (fun i r hi j v hj=>?_))
  obtain⟨y,hy,hd⟩:=h3 i r hi j v hj
  have:cs.getD (B.off+(i*B.z+j)) undef=y:=by simp [Qo0,hy]
  rw [this]
  exact hd.mono fun k hk=>⟨hA k hk,rfl⟩
 replace hz:rows=[]:=hz;subst hz
 rcases ho.rep.own_inv with⟨rfl,h0⟩|⟨B',hB',hcap,rfl⟩
 ·exact .dat (.sln0 _ _ _ _)
 rw [hn]at hB';cases hB'
theorem QzA {h:Qc4}{fn:Nat}{vs:List V}{r:Rs}(ok:QdJ P T)(hE:Qbb P C o σ fn vs)(hd:o.dst=some d)(hn:Nat.ble (d+1) C.n=true)(hpg:C.pg P)
  (h2:∀b u,hp b=some u->look σ.hp b=some u) (e:QyH P C T h hp d fn vs=some r) (hφ:r.holds) (hf:r.ob.isSome=true->look σ.hp d=none):QaD P C o d r σ:=by
 unfold QyH at e
 replace e:=Qaf e;obtain⟨e1,e⟩:=e
 split at e
 ·split at e
  ·rename_i us k hv
   replace e:=Qaf e;obtain⟨e2,e⟩:=e
   cases e
   obtain⟨a1,a2⟩:=Qht h2 hv hφ
   refine QaD.put rfl (Stp.callE hE hd hn hpg a1 (a2.mono fun _ _ h=>h.1) ?_)
   rw [Qcs,QB]at e2
   exact e2.imp (fun h=>⟨by simpa using h.1,h.2⟩) id
  cases e
 ·split at e
  ·rename_i us k hv
   cases e
   obtain⟨a1,a2,a3,a4⟩:=Qht h2 hv hφ
   exact Stp.callOE hE hd hn hpg a1 (Gives.own a2 a3) a4 (hf rfl) a3
  cases e
 ·split at e
  ·rename_i us k hv
   replace e:=Qaf e;obtain⟨e2,e⟩:=e
   cases e
   obtain⟨a1,a2,a3⟩:=Qht h2 hv hφ
   exact QaD.put rfl (Stp.callE hE hd hn hpg a1 (Gives.own a2 a3).toData (.inl ⟨by simpa using e2,rfl⟩))
  cases e
 ·split at e
  ·rename_i us k hv
   replace e:=Qaf e;obtain⟨e2,e⟩:=e
   cases e
   obtain⟨a1,a2,a3,a4⟩:=Qht h2 hv hφ
   exact QaD.put rfl (Stp.callEB a4 hE hd hn hpg a1 ((Qai.toData a2.b a3).mono fun _ _ h=>h.1) (.inl ⟨by simpa using e2,rfl⟩))
  cases e
 ·split at e
  ·rename_i us k hv
   replace e:=Qaf e;obtain⟨e2,e⟩:=e
   cases e
   obtain⟨a1,a2,a3⟩:=Qht h2 hv hφ
   refine QaD.put rfl (Stp.callEB a3 hE hd hn hpg a1 (a2.mono fun _ _ h=>h.1) ?_)
   rw [Qcs,QB]at e2
   exact e2.imp (fun h=>⟨by simpa using h.1,h.2⟩) id
  cases e
 ·split at e
  ·rename_i us k hv
   cases e
   obtain⟨a1,a2,a3,a4,a5⟩:=Qht h2 hv hφ
   exact Stp.callOEB a5 hE hd hn hpg a1 (Gives.ownB a2 a3) a4 (hf rfl) a3
  cases e
 cases e
theorem QtO {h:Qc4}{r:Rs}(ok:QdJ P T)(hd:o.dst=some d)(hn:Nat.ble (d+1) C.n=true)(hpg:C.pg P)(h1:∀x u,f x=some u->σ.opd x=some u)(h2:∀b u,hp b=some u->look σ.hp b=some u)
  (e:ev1 P C T h o d f hp=some r) (hφ:r.holds) (hf:r.ob.isSome=true->look σ.hp d=none):QaD P C o d r σ:=by
 unfold ev1 at e
 split at e
 ·cases e;exact hφ σ h1 h2 hf
 split at e
 ·rename_i x ho
  split at e
  ·rename_i v hv;cases e;exact QaD.put rfl (Stp.move ho hd hn (h1 _ _ hv))
  cases e
 ·rename_i x ho
  split at e
  ·rename_i v hv;cases e;exact QaD.put rfl (Stp.assign ho hd hn (h1 _ _ hv))
  cases e
 ·rename_i c a b ho
  split at e
  ·rename_i hc
   split at e
   ·rename_i v hv;cases e;exact QaD.put rfl (Stp.pickT ho hd hn (h1 _ _ hc) rfl (h1 _ _ hv))
   cases e
  ·rename_i hc
   split at e
   ·rename_i v hv;cases e;exact QaD.put rfl (Stp.pickF ho hd hn (h1 _ _ hc) rfl (h1 _ _ hv))
   cases e
  cases e
 ·rename_i op Tx x y Ty ho
  split at e
  ·rename_i v hv
   split at e
   ·rename_i u hu;exact Qz7 ok ho hd hn (h1 _ _ hv) (h1 _ _ hu) e hφ
   cases e
  cases e
 ·rename_i op Tx x ho
  split at e
  ·rename_i v hv
   unfold unV at e
   split at e
   ·split at e
    ·cases e;exact QaD.put rfl (Stp.not ho hd hn (h1 _ _ hv))
    cases e
   ·split at e
    ·cases e;exact QaD.put rfl (Stp.neg ho hd hn (h1 _ _ hv))
    cases e
   cases e
  cases e
 ·rename_i Tx ho
  split at e
  ·rename_i zs hz;cases e;exact Stp.alloc ho hd hn (ok.zv hz) (hf rfl)
  cases e
 ·rename_i Tx x ho
  split at e
  ·rename_i cs hv;cases e;exact Stp.box ho hd hn (h1 _ _ hv) (.inr ⟨_,rfl⟩) (hf rfl)
  ·rename_i v hne hv
   replace e:=Qaf e;obtain⟨e1,e⟩:=e
   cases e
   have hc:v.cells=[v]:=by cases v<;>first | rfl | exact absurd rfl (hne _)
   have:=Stp.box (P:=P) ho hd hn (h1 _ _ hv) (.inl e1) (hf rfl)
   rw [hc]at this;exact this
  cases e
 ·rename_i Tx x ho
  split at e
  ·rename_i v hv;exact Qzz ok ho hd hn (h1 _ _ hv) h2 e hφ
  cases e
 ·rename_i Tx x i ho
  split at e
  ·rename_i v hv;exact QyW ok ho hd hn (h1 _ _ hv) e
  cases e
 ·rename_i Tx x y ho
  split at e
  ·rename_i v hv
   split at e
   ·rename_i u hu;exact QyX ok ho hd hn (h1 _ _ hv) (h1 _ _ hu) h2 e hφ
   cases e
  cases e
 ·rename_i Tx parts ho
  split at e
  ·rename_i qs hq
   split at e
   ·rename_i zs hz
    replace e:=Qaf e;obtain⟨e1,e⟩:=e
    split at e
    ·rename_i pl hpl
     split at e
     ·rename_i vs hvs;cases e;exact QaD.put rfl (Stp.build ho hd hn (ok.zv hz) (ok.sp hpl) (QfV h1 hq) e1 hvs)
     cases e
    split at e
    ·rename_i p hp'
     split at e
     ·rename_i vs hvs;cases e;exact QaD.put rfl (Stp.buildA ho hd hn (ok.zv hz) (ok.ar hp') (QfV h1 hq) e1 hvs)
     cases e
    cases e
   cases e
  cases e
 ·rename_i Tx n parts ho
  split at e
  ·rename_i qs hq
   split at e
   ·rename_i p hp'
    split at e
    ·rename_i zs hz
     replace e:=Qaf e;obtain⟨e1,e⟩:=e
     split at e
     ·rename_i vs hvs
      simp only [QB,Qe4]at e1
      obtain⟨⟨⟨e3,e4⟩,e5⟩,e6⟩:=e1
      have e4:=QaL e4
      split at e
      ·replace e:=Qaf e;obtain⟨e2,e⟩:=e
       cases e
       rw [QB]at e2
       exact QaD.put rfl (Stp.buildSliceD _ ho hd hn (ok.es hp') (ok.zv hz) e4 (fun h0=>by rw [h0]at e5;cases e5) (QbV e6) (QfV h1 hq) e3 hvs e2.1 e2.2 rfl)
      replace e:=Qaf e;obtain⟨e2,e⟩:=e
      cases e
      rw [QB]at e2
      exact Stp.buildSlice ho hd hn (ok.es hp') (ok.zv hz) e4 (fun h0=>by rw [h0]at e5;cases e5) (QbV e6) (QfV h1 hq) e3 hvs e2.1 e2.2 rfl (hf rfl)
     cases e
    cases e
   cases e
  cases e
 ·rename_i x i ho
  split at e
  ·rename_i vs hv
   split at e
   ·rename_i v hv';cases e;exact QaD.put rfl (Stp.extract ho hd hn (h1 _ _ hv) hv')
   cases e
  cases e
 ·rename_i x ho
  split at e
  ·rename_i hv;cases e;exact QaD.put rfl (Stp.nilCheckL ho hd hn (h1 _ _ hv))
  cases e
 ·rename_i Tx x ho
  split at e
  ·rename_i v hv
   replace e:=Qaf e;obtain⟨e1,e⟩:=e
   cases e;exact QaD.put rfl (Stp.makeInterface ho hd hn (h1 _ _ hv) (ok.cc e1))
  cases e
 ·rename_i x S Tx ho
  split at e
  ·rename_i t v hv
   replace e:=Qaf e;obtain⟨e1,e⟩:=e
   rw [QB]at e1
   have:=QaL e1.1;subst this
   cases e;exact QaD.put rfl (Stp.typeAssert ho hd hn (h1 _ _ hv) (ok.cc e1.2))
  cases e
 ·rename_i fn first caps ho
  split at e
  ·rename_i vs hv
   split at e
   ·rename_i us hu;cases e;exact QaD.put rfl (Stp.makeFunc ho hd hn (QfU h1 hv) (QfU h1 hu))
   cases e
  cases e
 ·rename_i Tx x y ho
  split at e
  ·rename_i s hs
   split at e
   ·rename_i k j hj
    split at e
    ·replace e:=Qaf e;obtain⟨e1,e⟩:=e
     cases e;exact QaD.put rfl (Stp.idxStr' ho hd hn (h1 _ _ hs) (h1 _ _ hj) (ok.sb e1) hφ)
    cases e
   cases e
  cases e
 ·rename_i Tx x y ho
  split at e
  ·rename_i v hv
   split at e
   ·rename_i u hu;exact QA1 ok ho hd hn (h1 _ _ hv) (h1 _ _ hu) e hφ hf
   cases e
  cases e
 ·rename_i ho;cases e;exact Stp.makeMap ho hd hn (hf rfl)
 ·rename_i c ho
  obtain⟨cl,ags,ts⟩:=c
  split at e
  ·rename_i hc
   dsimp only at hc e;subst hc
   split at e
   ·rename_i x y hxy
    split at e
    ·rename_i v hv
     split at e
     ·rename_i u hu
      have ea:ags=#[x,y]:=by rw [<-Qql (xs:=ags),hxy]
      subst ea
      exact Qx9 (mx:=true) ho hd hn (h1 _ _ hv) (h1 _ _ hu) e
     cases e
    cases e
   cases e
  ·rename_i hc
   dsimp only at hc e;subst hc
   split at e
   ·rename_i x y hxy
    split at e
    ·rename_i v hv
     split at e
     ·rename_i u hu
      have ea:ags=#[x,y]:=by rw [<-Qql (xs:=ags),hxy]
      subst ea
      exact Qx9 (mx:=false) ho hd hn (h1 _ _ hv) (h1 _ _ hu) e
     cases e
    cases e
   cases e
  ·rename_i hc
   dsimp only at hc e;subst hc
   split at e
   ·rename_i x hx
    split at e
    ·rename_i Tx hT
     split at e
     ·rename_i v hv
      have ea:ags=#[x]:=by rw [<-Qql (xs:=ags),hx]
      have et:ts=#[Tx]:=by rw [<-Qql (xs:=ts),hT]
      subst ea;subst et
      exact Qz8 ok ho hd hn (h1 _ _ hv) e hφ
     cases e
    cases e
   cases e
  ·rename_i x hc
   dsimp only at hc e;subst hc
   split at e
   ·rename_i fn fs cs hx
    split at e
    ·rename_i vs hv
     have e1:Qab T.en fn=true:=by unfold QyH at e;exact(Qaf e).1
     exact QzA ok (Qbb.clo ho (h1 _ _ hx) (ok.en e1) (QfU h1 hv)) hd hn hpg h2 e hφ hf
    cases e
   cases e
  cases e
 cases e
end
end Go.Vm
namespace Go.Vm
open Go Go.RowKit
inductive Fr where
 | seq (y:Code)
 | blk (id:Nat)
 | cut (K:St->Prop)
inductive Pt where
 | c (c:Code)
 | o (ops:Array Oper) (l:List Oper)
 | x (e:Exit)
section
variable (P:Program)(C:Ctx)(Q:Exit->St->Prop)
def unw : List Fr->Exit->St->Prop
 | []=>Q
 | .seq y::k=>Qsd (fun σ=>AWp P C y σ (unw k)) (unw k)
 | .blk id::k=>Qo6 id (unw k)
 | .cut K::k=>Qsd K (unw k)
def AK (pt:Pt)(ks:List Fr)(σ:St):Prop:=match pt with
 | .c c=>AWp P C c σ (unw P C Q ks)
 | .o ops l=>AL P C ops l σ (unw P C Q ks)
 | .x e=>∀a w,R C σ a w->up C (unw P C Q ks) e a w
end
section
variable {P:Program}{C:Ctx}{Q:Exit->St->Prop}{σ σ':St}{ks:List Fr}
theorem AK.weaken {pt:Pt}(h:∀a w,R C σ a w->R C σ' a w)(k:AK P C Q pt ks σ'):AK P C Q pt ks σ:=by
 cases pt with
 | c c=>exact fun a w hR=>k a w (h a w hR)
 | o ops l=>exact fun a w hR=>k a w (h a w hR)
 | x e=>exact fun a w hR=>k a w (h a w hR)
theorem AK.done {e:Exit}(h:Q e σ):AK P C Q (.x e) [] σ:=fun a w hR=>⟨σ,h,hR⟩
theorem AK.met {K:St->Prop}(h:K σ):AK P C Q (.x .normal) (.cut K::ks) σ:=fun a w hR=>⟨σ,h,hR⟩
theorem AK.seq {x y:Code}(h:AK P C Q (.c x) (.seq y::ks) σ):AK P C Q (.c (.seq x y)) ks σ:=AWp.seq h
theorem AK.block {id:Nat}{x:Code}(h:AK P C Q (.c x) (.blk id::ks) σ):AK P C Q (.c (.block id x)) ks σ:=AWp.block h
theorem AK.region {id:Nat}{ops:Array Oper}(h:AK P C Q (.o ops ops.toList) ks σ):AK P C Q (.c (.region id ops false)) ks σ:=AWp.region h
theorem AK.skip (h:AK P C Q (.x .normal) ks σ):AK P C Q (.c .skip) ks σ:=fun a w hR=>wpIn_skip (h a w hR)
theorem AK.label {l:Nat}(h:AK P C Q (.x .normal) ks σ):AK P C Q (.c (.label l)) ks σ:=fun a w hR=>wpIn_label (h a w hR)
theorem AK.exit {id:Nat}(h:AK P C Q (.x (.exit id)) ks σ):AK P C Q (.c (.exit id)) ks σ:=fun a w hR=>wpIn_exit (h a w hR)
theorem AK.ret (h:AK P C Q (.x .ret) ks σ):AK P C Q (.c .ret) ks σ:=fun a w hR=>wpIn_ret (h a w hR)
theorem AK.nil {ops:Array Oper}(h:AK P C Q (.x .normal) ks σ):AK P C Q (.o ops []) ks σ:=h
theorem AK.popSeq {y:Code}(h:AK P C Q (.c y) ks σ):AK P C Q (.x .normal) (.seq y::ks) σ:=fun a w hR=>⟨σ,h,hR⟩
theorem AK.popBlk {id:Nat}(h:AK P C Q (.x .normal) ks σ):AK P C Q (.x .normal) (.blk id::ks) σ:=h
theorem AK.exSeq {y:Code}{i:Nat}(h:AK P C Q (.x (.exit i)) ks σ):AK P C Q (.x (.exit i)) (.seq y::ks) σ:=h
theorem AK.exCut {K:St->Prop}{i:Nat}(h:AK P C Q (.x (.exit i)) ks σ):AK P C Q (.x (.exit i)) (.cut K::ks) σ:=h
theorem AK.exBlk {i j:Nat}(e:Nat.beq i j=true)(h:AK P C Q (.x .normal) ks σ):AK P C Q (.x (.exit i)) (.blk j::ks) σ:=fun a w hR=>
 let ⟨σ',h1,h2⟩:=h a w hR;⟨σ',QEq e h1,h2⟩
theorem AK.exBlk' {i j:Nat}(e:Nat.beq i j=false)(h:AK P C Q (.x (.exit i)) ks σ):AK P C Q (.x (.exit i)) (.blk j::ks) σ:=fun a w hR=>
 let ⟨σ',h1,h2⟩:=h a w hR;⟨σ',QEr e h1,h2⟩
theorem AK.retPop {f:Fr}(h:AK P C Q (.x .ret) ks σ):AK P C Q (.x .ret) (f::ks) σ:=by
 cases f<;>exact h
theorem AK.meet {x y:Code}(K:St->Prop)(hx:AK P C Q (.c x) (.cut K::ks) σ)(hy:∀σ',K σ'->AK P C Q (.c y) ks σ'):AK P C Q (.c (.seq x y)) ks σ:=AWp.seqK K hx hy
theorem AK.meetX {c:Code}(K:St->Prop)(hx:AK P C Q (.c c) (.cut K::ks) σ)(hy:∀σ',K σ'->AK P C Q (.x .normal) ks σ'):AK P C Q (.c c) ks σ:=by
 intro a w hR
 refine wpIn_mono (hx a w hR) ?_
 rintro e a w ⟨σ',h1,h2⟩
 cases e<;>first | exact hy σ' h1 a w h2 | exact⟨σ',h1,h2⟩
def Qz9 {τ ρ:Type}(E:τ->St->Prop)(Post:ρ->Exit->St->Prop)(o:τ⊕ρ):Exit->St->Prop:=
 Qsd (fun σ'=>∃s',o=.inl s'/\E s' σ') (fun e σ'=>∃r,o=.inr r/\Post r e σ')
theorem QY {τ ρ:Type}{E:τ->St->Prop}{Post:ρ->Exit->St->Prop}{o:τ⊕ρ}{s':τ}(h:o=.inl s')(he:E s' σ):AK P C (Qz9 E Post o) (.x .normal) [] σ:=AK.done ⟨s',h,he⟩
theorem QZ {τ ρ:Type}{E:τ->St->Prop}{Post:ρ->Exit->St->Prop}{o:τ⊕ρ}{r:ρ}{i:Nat}(h:o=.inr r)(he:Post r (.exit i) σ):AK P C (Qz9 E Post o) (.x (.exit i)) [] σ:=AK.done ⟨r,h,he⟩
theorem Qah {τ ρ:Type}{E:τ->St->Prop}{Post:ρ->Exit->St->Prop}{o:τ⊕ρ}{r:ρ}(h:o=.inr r)(he:Post r .ret σ):AK P C (Qz9 E Post o) (.x .ret) [] σ:=AK.done ⟨r,h,he⟩
theorem AK.loop {τ ρ:Type}{body:τ->Option (τ⊕ρ)}{c:Code}(E:τ->St->Prop)(Post:ρ->Exit->St->Prop){s0:τ}{r:ρ}(hr:Qz body s0=some r)(h0:E s0 σ)
  (round:∀s o σ,E s σ->body s=some o->AK P C (Qz9 E Post o) (.c c) [] σ) (hQ:∀e σ',Post r e σ'->AK P C Q (.x e) ks σ'):AK P C Q (.c (.loop c)) ks σ:=by
 intro a w hR
 refine wpIn_mono (AWp.loop (Q:=fun e σ'=>Post r e σ') E Post round (Qny.1 hr) h0 (fun e σ' h=>h) a w hR) ?_
 rintro e a' w' ⟨σ',hp,hR'⟩
 exact hQ e σ' hp a' w' hR'
end
def V.isUnd : V->Bool
 | .lit (.tuple a)=>a.isEmpty
 | _=>false
theorem V.isUnd_eq {v:V}(h:v.isUnd=true):v=.lit undef:=by
 unfold V.isUnd at h
 split at h
 ·rename_i a;rw [Array.isEmpty_iff]at h;subst h;rfl
 cases h
inductive Ent where
 | fn
 | clo
 | me (f:Nat)
 | mv (f e:Nat)
def bkM : List (Nat×Nat)->Nat->Option Nat
 | [],_=>none
 | (b,a')::r,a=>bif Nat.beq a' a then some b else bkM r a
def trC (bk:Nat->Option Nat):V->Option V
 | .own a n=>match bk a with
  | some b=>some (.own b n)
  | none=>none
 | .loc a i d=>match bk a with
  | some b=>some (.loc b i d)
  | none=>none
 | .map a=>match bk a with
  | some b=>some (.map b)
  | none=>none
 | .ifc t x=>match trC bk x with
  | some y=>some (.ifc t y)
  | none=>none
 | v=>bif v.datA then some v else none
def trL (bk:Nat->Option Nat):List V->Option (List V)
 | []=>some []
 | v::vs=>match trC bk v with
  | some u=>match trL bk vs with
   | some us=>some (u::us)
   | none=>none
  | none=>none
def trV (bk:Nat->Option Nat):V->Option V
 | .agg cs=>bif (V.agg cs).datA then some (.agg cs)else match trL bk cs with
  | some us=>some (.agg us)
  | none=>none
 | .tup cs=>bif (V.tup cs).datA then some (.tup cs)else match trL bk cs with
  | some us=>some (.tup us)
  | none=>none
 | .clo fn fs cs=>match trL bk fs with
  | some us=>match trL bk cs with
   | some ds=>some (.clo fn us ds)
   | none=>none
  | none=>none
 | v=>trC bk v
def QyY (bk:Nat->Option Nat):List V->Option (List V)
 | []=>some []
 | v::vs=>match trV bk v with
  | some u=>match QyY bk vs with
   | some us=>some (u::us)
   | none=>none
  | none=>none
def trO (bk:Nat->Option Nat):Ob->Option Ob
 | .var cs=>match QyY bk cs with
  | some us=>some (.var us)
  | none=>none
 | .lp l K cs q=>match QyY bk cs with
  | some us=>some (.lp l K us q)
  | none=>none
 | .arr z rs=>some (.arr z rs)
 | .map l=>some (.map l)
 | .grp z l lk=>some (.grp z l lk)
 | .tbl A z rs=>some (.tbl A z rs)
 | _=>none
def QDj (bk:Nat->Option Nat):Qel->V->Option V
 | .n z,.lit (.slice none 0 0)=>some (.sl z [])
 | .d,v=>trV bk v
 | .f n,.agg cs=>match trL bk (cs.set n .J)with
  | some us=>match us[n]? with
   | some .J=>some (.agg us)
   | _=>none
  | none=>none
 | _,_=>none
def Qke (bk:Nat->Option Nat):List Qel->List V->Option (List V)
 | [],[]=>some []
 | m::ms,v::vs=>match QDj bk m v with
  | some u=>match Qke bk ms vs with
   | some us=>some (u::us)
   | none=>none
  | none=>none
 | _,_=>none
def Qgq (bk:Nat->Option Nat)(src:Nat->Option Ob):List (Nat×Nat)->Option (List (Nat×Ob))
 | []=>some []
 | (d,s)::r=>match src s with
  | some ob=>match trO bk ob with
   | some ob'=>match Qgq bk src r with
    | some l=>some ((d,ob')::l)
    | none=>none
   | none=>none
  | none=>none
def QB0 (P:Program)(T:Tab)(σ:St)(φ:Prop)(c:Call):Ent->Option (Nat×List V×Prop)
 | .fn=>match c.callee with
  | .value (.func f)=>bif Qab T.en f then match evs σ.opd c.args.toList with
   | some vs=>some (f,vs,φ)
   | none=>none
   else none
  | _=>none
 | .clo=>match c.callee with
  | .value x=>match σ.opd x with
   | some (.clo (.func f) fs cs)=>bif Qab T.en f then match evs σ.opd c.args.toList with
    | some vs=>some (f,fs++(vs++cs),φ)
    | none=>none
    else none
   | _=>none
  | _=>none
 | .me f=>match c.callee with
  | .invoke x name=>match σ.opd x with
   | some (.ifc t u)=>bif Qab T.en f then match evs σ.opd c.args.toList with
    | some vs=>some (f,u::vs,φ/\((Qmg P t name=some (f,true)/\QyR P t=true)\/(Qmg P t name=some (f,false)/\QtL P t=true)))
    | none=>none
    else none
   | _=>none
  | _=>none
 | .mv f e=>match c.callee with
  | .invoke x name=>match σ.opd x with
   | some (.ifc t (.loc b 0 off))=>match look σ.hp b with
    | some (.var cs)=>match cs[off]? with
     | some r=>bif Qab T.en f then match evs σ.opd c.args.toList with
      | some vs=>some (f,r::vs,φ/\(Qmg P t name=some (f,false)/\QwB P t e=true/\Qgp P e=some false))
      | none=>none
      else none
     | none=>none
    | _=>none
   | _=>none
  | _=>none
def cmV (P:Program)(σ:St)(φ:Prop)(d f:Nat)(vs:List V)(M N:List (Nat×Nat))(dead:List Nat)(ms:List Qel)(outs:List (Nat×Ob))(r:V):Option (St×Prop):=
 bif QcL σ M N dead outs&&QeY (M.map Prod.fst)&&QeY (N.map Prod.fst)then match Qke (bkM M) ms vs with
  | some us=>match Qgq (bkM M) (look σ.hp) M with
   | some hsC=>match Qgq (bkM N) (look outs) N with
    | some hsN=>match trV (bkM N) r with
     | some r'=>some ((σ.after dead hsN).put d r',φ/\Qc P f us hsC (Gives r outs))
     | none=>none
    | none=>none
   | none=>none
  | none=>none
 else none
inductive Dir where
 | n (k:Nat)
 | o (h:Qc4)
 | v (h:Qc4) (ms:List (Option Nat)) (v:V)
 | br (b:Bool)
 | st (r:List V) (rs:List (List V))
 | app (rs:List (List V)) (m:Nat)
 | x (g:St->St)
 | say (t:Nat) (v:V)
 | sayO (b:Nat) (ob:Ob)
 | to (fr:List (Nat×V)) (hp:List (Nat×Ob))
 | freeze (t:Nat) (us:List (List V))
 | adopt (t b z:Nat)
 | denil (t:Nat) (ms:List (Option Nat))
 | denilO (b:Nat) (ms:List (Option Nat))
 | ren (o o':Nat)
 | kill (b:Nat)
 | keep (ts os:List Nat)
 | frz (b:Nat) (us:List (List V)) (ts os:List Nat)
 | frn (β b:Nat) (us:List (List V)) (ts os:List Nat)
 | adoptO (p i b z:Nat)
 | cm (en:Ent) (M N:List (Nat×Nat)) (dead:List Nat) (ms:List Qel) (outs:List (Nat×Ob)) (r:V)
structure Cfg where
 pt:Pt
 ks:List Fr
 σ:St
 φ:Prop
def Qpa (φ:Prop):Option Prop->Prop
 | none=>φ
 | some p=>φ/\p
def ctl : Pt->List Fr->St->Option (Pt×List Fr)
 | .c (.seq x y),ks,_=>some (.c x,.seq y::ks)
 | .c (.block id x),ks,_=>some (.c x,.blk id::ks)
 | .c (.region _ ops false),ks,_=>some (.o ops ops.toList,ks)
 | .c .skip,ks,_=>some (.x .normal,ks)
 | .c (.label _),ks,_=>some (.x .normal,ks)
 | .c (.exit i),ks,_=>some (.x (.exit i),ks)
 | .c .ret,ks,_=>some (.x .ret,ks)
 | .c (.cond c x y),ks,σ=>match σ.opd c with
  | some (.b true)=>some (.c x,ks)
  | some (.b false)=>some (.c y,ks)
  | _=>none
 | .o _ [],ks,_=>some (.x .normal,ks)
 | .x .normal,.seq y::ks,_=>some (.c y,ks)
 | .x .normal,.blk _::ks,_=>some (.x .normal,ks)
 | .x (.exit i),.seq _::ks,_=>some (.x (.exit i),ks)
 | .x (.exit i),.cut _::ks,_=>some (.x (.exit i),ks)
 | .x (.exit i),.blk j::ks,_=>bif Nat.beq i j then some (.x .normal,ks)else some (.x (.exit i),ks)
 | .x .ret,_::ks,_=>some (.x .ret,ks)
 | _,_,_=>none
def Qfx (ops:Array Oper)(o:Oper)(f:Nat->Option V):Option Bool:=match o.guard with
 | none=>some true
 | some (j,t)=>match ops[j]? with
  | some oj=>match oj.dst with
   | some d=>match f d with
    | some (.b true)=>some t
    | some (.b false)=>some (!t)
    | some v=>bif v.isUnd then some false else none
    | none=>none
   | none=>none
  | none=>none
def QA2 (T:Tab)(Tx:TypeId)(σ:St)(φ:Prop):V->V->Option (St×Prop)
 | .loc b i off,v=>match look σ.hp b with
  | some (.var cs)=>match i with
   | 0=>match look T.sz Tx with
    | some n=>bif v.isV&&Nat.beq v.cells.length n&&v.cells.all V.one&&Nat.ble (off+n) cs.length then some (σ.set b (.var (QcW cs off v.cells)),φ)else none
    | none=>none
   | _=>none
  | _=>none
 | _,_=>none
def storeA (T:Tab)(Tx:TypeId)(σ:St)(φ:Prop)(r:List V)(rs':List (List V)):V->V->Option (St×Prop)
 | .loc b i off,v=>match look σ.hp b with
  | some (.arr z rs)=>match look T.sz Tx with
    | some n=>bif v.isV&&Nat.beq v.cells.length n&&v.cells.all V.one&&v.cells.all V.dat&&Nat.ble (off+n) z then
     some (σ.set b (.arr z rs'),φ/\(rs[i]? = some r/\rs.set i (QcW r off v.cells)=rs'))else none
    | none=>none
  | _=>none
 | _,_=>none
def op1 (P:Program)(C:Ctx)(T:Tab)(n:Nat)(h:Qc4)(sv:Option (List (Option Nat)×V))(o:Oper)(σ:St)(φ:Prop):Option (St×Prop):=match o.dst with
 | some d=>bif Nat.ble (d+1) n then match ev1 P C T h o d σ.opd (look σ.hp)with
  | some ⟨v,none,q⟩=>match sv with
   | none=>some (σ.put d v,Qpa φ q)
   | some (ms,u)=>some (σ.put d u,Qpa φ q/\v.denil ms=u)
  | some ⟨v,some ob,q⟩=>match look σ.hp d with
   | none=>match sv with
    | none=>some ((σ.set d ob).put d v,Qpa φ q)
    | some (ms,u)=>some ((σ.set d ob).put d u,Qpa φ q/\v.denil ms=u)
   | some _=>none
  | none=>none
  else none
 | none=>match o.op with
  | .store Tx x y=>match σ.opd x with
   | some p=>match σ.opd y with
    | some v=>QA2 T Tx σ φ p v
    | none=>none
   | none=>none
  | _=>none
def QB1 (T:Tab)(n:Nat)(σ:St)(φ:Prop)(rs':List (List V))(m:Nat)(d Tx Ty:Nat):V->V->Option (St×Prop)
 | .own b k,y=>match look σ.hp b with
  | some (.arr z rs)=>match look T.es Tx with
   | some (e,z',by_)=>match look T.zv e with
    | some zs=>bif (look T.es Ty).isSome&&Nat.ble (d+1) n&&!(Nat.ble 616 b)&&Nat.beq z z'&&Nat.beq zs.length z&&!(Nat.beq z 0)&&Nat.ble by_ 32768 then match y with
     | .sl z'' us=>bif Nat.beq z z'' then some (σ.app b z d m rs',φ/\(rs.length=k/\decide (k+us.length<=4294967296)=true/\rs++us=rs'/\k+us.length=m))else none
     | .own b' k'=>match look σ.hp b' with
      | some (.arr z'' us)=>bif Nat.beq z z'' then some (σ.app b z d m rs',φ/\(rs.length=k/\decide (k+k'<=4294967296)=true/\us.length=k'/\rs++us=rs'/\k+k'=m))else none
      | _=>none
     | .lit (.slice none 0 0)=>some (σ.app b z d k rs,φ/\(rs.length=k/\decide (k<=4294967296)=true))
     | _=>none
     else none
    | none=>none
   | none=>none
  | _=>none
 | _,_=>none
def QhX {α:Type}(l:List (Nat×α)):List Nat->Option (List (Nat×α))
 | []=>some []
 | t::ts=>match look l t with
  | some v=>match QhX l ts with
   | some r=>some ((t,v)::r)
   | none=>none
  | none=>none
def V.frzC (b:Nat)(v s:V):V:=match v with
 | .own o k=>bif Nat.beq o b then s else .own o k
 | v=>v
def V.frz (b:Nat)(v s:V):V:=match v with
 | .agg cs=>.agg (cs.map fun v=>v.frzC b s)
 | v=>v.frzC b s
def QyZ (b:Nat)(rs us:List (List V)):V->Prop
 | .own o k=>bif Nat.beq o b then k<=rs.length/\rs.take k=us else True
 | _=>True
def Qsr (b:Nat)(rs us:List (List V)):List V->Prop
 | []=>True
 | .own o k::r=>QyZ b rs us (.own o k)/\Qsr b rs us r
 | _::r=>Qsr b rs us r
def QB2 (b:Nat)(rs us:List (List V)):V->Prop
 | .agg cs=>Qsr b rs us cs
 | v=>QyZ b rs us v
def V.isOwn (b:Nat):V->Bool
 | .own o _=>Nat.beq o b
 | _=>false
def V.frzB (b:Nat):V->Bool
 | .agg cs=>cs.all fun c=>c.freeC b||c.isOwn b
 | v=>v.freeC b||v.isOwn b
def QtP (b:Nat)(s:V)(rs us:List (List V))(σ0:St):List Nat->St->Prop->Option (St×Prop)
 | [],σ,φ=>some (σ,φ)
 | t::ts,σ,φ=>match look σ0.fr t with
  | some v=>bif v.frzB b then QtP b s rs us σ0 ts (σ.put t (v.frz b s)) (φ/\QB2 b rs us v)else none
  | none=>none
def Qxw (b:Nat)(s:V)(rs us:List (List V))(σ0:St):List Nat->St->Prop->Option (St×Prop)
 | [],σ,φ=>some (σ,φ)
 | p::ps,σ,φ=>match look σ0.hp p with
  | some (.var cs)=>bif !(Nat.beq p b)&&cs.all (fun c=>c.freeC b||c.isOwn b)&&(look σ.hp p).isSome then Qxw b s rs us σ0 ps (σ.set p (.var (cs.map fun v=>v.frzC b s))) (φ/\Qsr b rs us cs)else none
  | _=>none
def QB3 (P:Program)(C:Ctx)(T:Tab)(n:Nat):Dir->Pt->List Fr->St->Prop->Option Cfg
 | .o h,.o ops (o::l),ks,σ,φ=>match Qfx ops o (look σ.fr)with
  | some true=>match op1 P C T n h none o σ φ with
   | some (σ',φ')=>some ⟨.o ops l,ks,σ',φ'⟩
   | none=>none
  | _=>none
 | .v h ms u,.o ops (o::l),ks,σ,φ=>match Qfx ops o (look σ.fr)with
  | some true=>match op1 P C T n h (some (ms,u)) o σ φ with
   | some (σ',φ')=>some ⟨.o ops l,ks,σ',φ'⟩
   | none=>none
  | _=>none
 | .st r rs,.o ops (o::l),ks,σ,φ=>match Qfx ops o (look σ.fr)with
  | some true=>match o.dst with
   | none=>match o.op with
    | .store Tx x y=>match σ.opd x with
     | some p=>match σ.opd y with
      | some v=>match storeA T Tx σ φ r rs p v with
       | some (σ',φ')=>some ⟨.o ops l,ks,σ',φ'⟩
       | none=>none
      | none=>none
     | none=>none
    | _=>none
   | some _=>none
  | _=>none
 | .app rs m,.o ops (o::l),ks,σ,φ=>match Qfx ops o (look σ.fr)with
  | some true=>match o.dst with
   | some d=>match o.op with
    | .call c=>match c.callee with
     | .builtin .append=>match c.args.toList with
      | [x,y]=>match c.argTypes.toList with
       | [Tx,Ty]=>match σ.opd x with
        | some p=>match σ.opd y with
         | some v=>match QB1 T n σ φ rs m d Tx Ty p v with
          | some (σ',φ')=>some ⟨.o ops l,ks,σ',φ'⟩
          | none=>none
         | none=>none
        | none=>none
       | _=>none
      | _=>none
     | _=>none
    | _=>none
   | none=>none
  | _=>none
 | .x g,.o ops (o::l),ks,σ,φ=>match Qfx ops o (look σ.fr)with
  | some true=>some ⟨.o ops l,ks,g σ,φ/\Stp P C o σ (g σ)⟩
  | _=>none
 | .cm en M N dead ms outs r,.o ops (o::l),ks,σ,φ=>match Qfx ops o (look σ.fr)with
  | some true=>match o.dst with
   | some d=>bif Nat.ble (d+1) n then match o.op with
    | .call c=>match QB0 P T σ φ c en with
     | some (f,vs,φ1)=>match cmV P σ φ1 d f vs M N dead ms outs r with
      | some (σ',φ')=>some ⟨.o ops l,ks,σ',φ'⟩
      | none=>none
     | none=>none
    | _=>none
    else none
   | none=>none
  | _=>none
 | .br b,.c (.cond c x y),ks,σ,φ=>match σ.opd c with
  | some (.b t)=>match b with
   | true=>some ⟨.c x,ks,σ,φ/\t=true⟩
   | false=>some ⟨.c y,ks,σ,φ/\t=false⟩
  | _=>none
 | .say t v,pt,ks,σ,φ=>match look σ.fr t with
  | some u=>some ⟨pt,ks,σ.put t v,φ/\u=v⟩
  | none=>none
 | .sayO b ob,pt,ks,σ,φ=>match look σ.hp b with
  | some u=>some ⟨pt,ks,σ.set b ob,φ/\u=ob⟩
  | none=>none
 | .to fr hp,pt,ks,σ,φ=>some ⟨pt,ks,⟨fr,hp⟩,φ/\(Qi3 σ.fr fr/\Qg9 σ.hp hp/\St.closed ⟨fr,hp⟩=true)⟩
 | .freeze t us,pt,ks,σ,φ=>match look σ.fr t with
  | some (.own b k)=>match look σ.hp b with
   | some (.arr z rs)=>bif !(Nat.ble 614 b)then some ⟨pt,ks,(σ.kill b).put t (.sl z us),φ/\(k<=rs.length/\rs.take k=us)⟩else none
   | _=>none
  | _=>none
 | .adopt t b z,pt,ks,σ,φ=>match look σ.fr t with
  | some (.lit (.slice none 0 0))=>match look σ.hp b with
   | none=>bif Nat.ble 616 b then none else some ⟨pt,ks,(σ.set b (.arr z [])).put t (.own b 0),φ⟩
   | some _=>none
  | _=>none
 | .denil t ms,pt,ks,σ,φ=>match look σ.fr t with
  | some v=>some ⟨pt,ks,σ.put t (v.denil ms),φ⟩
  | none=>none
 | .denilO b ms,pt,ks,σ,φ=>match look σ.hp b with
  | some (.var cs)=>some ⟨pt,ks,σ.set b (.var (QdU ms cs)),φ⟩
  | _=>none
 | .ren o o',pt,ks,σ,φ=>bif !(Nat.ble 614 o)&&!(Nat.ble 614 o')&&(look σ.hp o').isNone then some ⟨pt,ks,σ.ren o o',φ⟩else none
 | .kill b,pt,ks,σ,φ=>some ⟨pt,ks,σ.kill b,φ⟩
 | .frz b us ts os,pt,ks,σ,φ=>match look σ.hp b with
  | some (.arr z rs)=>bif !(Nat.ble 614 b)then match QtP b (.sl z us) rs us σ ts (σ.kill b) True with
   | some (σ1,φ1)=>match Qxw b (.sl z us) rs us σ os σ1 φ1 with
    | some (σ2,φ2)=>some ⟨pt,ks,σ2,φ/\φ2⟩
    | none=>none
   | none=>none
   else none
  | _=>none
 | .frn β b us ts os,pt,ks,σ,φ=>match look σ.hp b with
  | some (.arr z rs)=>bif !(Nat.ble 614 b)then match QtP b (.sln β z us) rs us σ ts (σ.kill b) True with
   | some (σ1,φ1)=>match Qxw b (.sln β z us) rs us σ os σ1 φ1 with
    | some (σ2,φ2)=>some ⟨pt,ks,σ2,φ/\(φ2/\β<=C.w0.heap.size)⟩
    | none=>none
   | none=>none
   else none
  | _=>none
 | .adoptO p i b z,pt,ks,σ,φ=>match look σ.hp p with
  | some (.var cs)=>match cs[i]? with
   | some (.lit (.slice none 0 0))=>match look σ.hp b with
    | none=>bif Nat.beq p b||Nat.ble 616 b then none else some ⟨pt,ks,(σ.set b (.arr z [])).set p (.var (cs.set i (.own b 0))),φ⟩
    | some _=>none
   | _=>none
  | _=>none
 | .keep ts os,pt,ks,σ,φ=>match QhX σ.fr ts with
  | some fr=>match QhX σ.hp os with
   | some hp=>bif St.closed ⟨fr,hp⟩then some ⟨pt,ks,⟨fr,hp⟩,φ⟩else none
   | none=>none
  | none=>none
 | _,_,_,_,_=>none
def plain (P:Program)(C:Ctx)(T:Tab)(n:Nat):Nat->Pt->List Fr->St->Prop->Option Cfg
 | 0,pt,ks,σ,φ=>some ⟨pt,ks,σ,φ⟩
 | k+1,.o ops (o::l),ks,σ,φ=>match Qfx ops o (look σ.fr)with
  | some true=>match op1 P C T n .no none o σ φ with
   | some (σ',φ')=>plain P C T n k (.o ops l) ks σ' φ'
   | none=>none
  | some false=>match o.dst with
   | some d=>bif Nat.ble (d+1) n then plain P C T n k (.o ops l) ks (σ.put d (.lit undef)) φ else none
   | none=>plain P C T n k (.o ops l) ks σ φ
  | none=>none
 | k+1,pt,ks,σ,φ=>match ctl pt ks σ with
  | some (pt',ks')=>plain P C T n k pt' ks' σ φ
  | none=>none
def go (P:Program)(C:Ctx)(T:Tab)(n:Nat):List Dir->Pt->List Fr->St->Prop->Option Cfg
 | [],pt,ks,σ,φ=>some ⟨pt,ks,σ,φ⟩
 | .n k::ds,pt,ks,σ,φ=>match plain P C T n k pt ks σ φ with
  | some ⟨pt',ks',σ',φ'⟩=>go P C T n ds pt' ks' σ' φ'
  | none=>none
 | d::ds,pt,ks,σ,φ=>match QB3 P C T n d pt ks σ φ with
  | some ⟨pt',ks',σ',φ'⟩=>go P C T n ds pt' ks' σ' φ'
  | none=>none
end Go.Vm
namespace Go.Vm
open Go Go.RowKit
section
variable {P:Program}{C:Ctx}{T:Tab}{Q:Exit->St->Prop}{n:Nat}{φ:Nat->Option Blk}{σ:St}{a:Act}{w:World}
def QAa (P:Program)(C:Ctx)(Q:Exit->St->Prop)(pt:Pt)(ks:List Fr)(σ:St)(φ:Prop)(c:Cfg):Prop:=c.φ->φ/\(AK P C Q c.pt c.ks c.σ->AK P C Q pt ks σ)
theorem Qpb {φ:Prop}{q:Option Prop}{v:V}{ob:Option Ob}(h:Qpa φ q):φ/\Rs.holds ⟨v,ob,q⟩:=by
 cases q with
 | none=>exact⟨h,trivial⟩
 | some p=>exact h
theorem QA3 {pt pt':Pt}{ks ks':List Fr}{σ:St}(h:ctl pt ks σ=some (pt',ks'))(k:AK P C Q pt' ks' σ):AK P C Q pt ks σ:=by
 unfold ctl at h
 split at h
 ·cases h;exact AK.seq k
 ·cases h;exact AK.block k
 ·cases h;exact AK.region k
 ·cases h;exact AK.skip k
 ·cases h;exact AK.label k
 ·cases h;exact AK.exit k
 ·cases h;exact AK.ret k
 ·split at h
  ·rename_i hc;cases h;exact AWp.cond_true hc k
  ·rename_i hc;cases h;exact AWp.cond_false hc k
  cases h
 ·cases h;exact AK.nil k
 ·cases h;exact AK.popSeq k
 ·cases h;exact AK.popBlk k
 ·cases h;exact AK.exSeq k
 ·cases h;exact AK.exCut k
 ·rename_i _ i j ks
  cases hb:Nat.beq i j with
  | true=>rw [hb]at h;cases h;exact AK.exBlk hb k
  | false=>rw [hb]at h;cases h;exact AK.exBlk' hb k
 ·cases h;exact AK.retPop k
 cases h
theorem QnA {ops:Array Oper}{o:Oper}{f:Nat->Option V}{b:Bool}(h:Qfx ops o f=some b):
  (o.guard=none/\b=true)\/∃j t d,o.guard=some (j,t)/\((ops[j]?).bind (·.dst))=some d/\((∃u,f d=some (.b u)/\b=(u==t))\/(f d=some (.lit undef)/\b=false)):=by
 unfold Qfx at h
 split at h
 ·rename_i hg;cases h;exact .inl ⟨hg,rfl⟩
 rename_i j t hg
 split at h
 ·rename_i oj hj
  split at h
  ·rename_i d hd
   have hjd:((ops[j]?).bind (·.dst))=some d:=by rw [hj];exact hd
   refine .inr ⟨j,t,d,hg,hjd,?_⟩
   split at h
   ·rename_i hf;cases h;exact .inl ⟨true,hf,by simp⟩
   ·rename_i hf;cases h;exact .inl ⟨false,hf,by simp⟩
   ·rename_i v _ _ hf
    obtain⟨h1,h⟩:=Qaf h
    cases h
    exact .inr ⟨by rw [hf,V.isUnd_eq h1],rfl⟩
   cases h
  cases h
 cases h
theorem AL.want {ops:Array Oper}{o:Oper}{l:List Oper}{σ σ':St}{Q:Exit->St->Prop}(h:Qfx ops o (look σ.fr)=some true)(hs:Stp P C o σ σ')(k:AL P C ops l σ' Q):AL P C ops (o::l) σ Q:=by
 rcases QnA h with⟨hg,_⟩|⟨j,t,d,hg,hj,⟨u,hu,hb⟩|⟨_,hb⟩⟩
 ·exact AL.cons hg hs k
 ·have:u=t:=by simpa using hb.symm
  exact AL.consGT hg hj hu this hs k
 cases hb
theorem AL.pass {ops:Array Oper}{o:Oper}{l:List Oper}{σ:St}{Q:Exit->St->Prop}{d:Nat}(h:Qfx ops o (look σ.fr)=some false)(hd:o.dst=some d)(hn:Nat.ble (d+1) C.n=true)(k:AL P C ops l (σ.put d (.lit undef)) Q):AL P C ops (o::l) σ Q:=by
 rcases QnA h with⟨_,hb⟩|⟨j,t,e,hg,hj,⟨u,hu,hb⟩|⟨hu,_⟩⟩
 ·cases hb
 ·have:u=!t:=by cases u<;>cases t<;>first | rfl | cases hb
  exact AL.consNT hg hj hu this hd hn k
 exact AL.consU hg hj hu hd hn k
theorem AL.pass0 {ops:Array Oper}{o:Oper}{l:List Oper}{σ:St}{Q:Exit->St->Prop}(h:Qfx ops o (look σ.fr)=some false)(hd:o.dst=none)(k:AL P C ops l σ Q):AL P C ops (o::l) σ Q:=by
 rcases QnA h with⟨_,hb⟩|⟨j,t,e,hg,hj,⟨u,hu,hb⟩|⟨hu,_⟩⟩
 ·cases hb
 ·have:u=!t:=by cases u<;>cases t<;>first | rfl | cases hb
  exact AL.consNT0 hg hj hu this hd k
 exact AL.consU0 hg hj hu hd k
theorem RR.putDenil {d:Nat}{v:V}{ms:List (Option Nat)}(h:RR C φ (σ.put d v) a w):RR C φ (σ.put d (v.denil ms)) a w:=by
 obtain⟨x,hx,hrep⟩:=h.frame d v (Qv _ _ _)
 refine(h.say hx (hrep.denil (ms:=ms))).le fun t u hu=>?_
 by_cases e:d=t
 ·subst e
  have hu:look ((d,v.denil ms)::σ.fr) d=some u:=hu
  rw [Qv]at hu
  show look ((d,v.denil ms)::_) d=some u
  rw [Qv];exact hu
 have hu:look ((d,v.denil ms)::σ.fr) t=some u:=hu
 rw [Qr _ _ e]at hu
 show look ((d,v.denil ms)::(d,v)::σ.fr) t=some u
 rw [Qr _ _ e,Qr _ _ e];exact hu
theorem Stp.denil {o:Oper}{σ σ':St}{d:Nat}{v:V}{ms:List (Option Nat)}(h:Stp P C o σ (σ'.put d v)):Stp P C o σ (σ'.put d (v.denil ms)):=
 fun a w hR next Q hn=>h a w hR next Q fun a' w' ⟨φ,hr⟩=>hn a' w' ⟨φ,hr.putDenil⟩
theorem QtQ {h:Qc4}{sv:Option (List (Option Nat)×V)}{o:Oper}{σ σ':St}{φ φ':Prop}(ok:QdJ P T)(hN:Qdb P C n)(e:op1 P C T n h sv o σ φ=some (σ',φ'))(hφ:φ'):φ/\Stp P C o σ σ':=by
 have hn:=hN.n
 unfold op1 at e
 split at e
 ·rename_i d hd
  replace e:=Qaf e;obtain⟨e1,e⟩:=e
  rw [<-hn]at e1
  split at e
  ·rename_i v q hev
   have key:∀q':Prop,Qpa φ q/\q'->φ/\Stp P C o σ (σ.put d v):=fun q' h=>by
    obtain⟨a,b⟩:=Qpb h.1
    exact⟨a,QtO ok hd e1 hN.g (fun _ _ h=>h) (fun _ _ h=>h) hev b (fun h=>by cases h)⟩
   split at e
   ·cases e;exact key True ⟨hφ,trivial⟩
   cases e;obtain⟨a,b⟩:=hφ;subst b;obtain⟨a1,a2⟩:=key True ⟨a,trivial⟩;exact⟨a1,a2.denil⟩
  ·rename_i v ob q hev
   split at e
   ·rename_i hl
    have key:∀q':Prop,Qpa φ q/\q'->φ/\Stp P C o σ ((σ.set d ob).put d v):=fun q' h=>by
     obtain⟨a,b⟩:=Qpb h.1
     exact⟨a,QtO ok hd e1 hN.g (fun _ _ h=>h) (fun _ _ h=>h) hev b (fun _=>hl)⟩
    split at e
    ·cases e;exact key True ⟨hφ,trivial⟩
    cases e;obtain⟨a,b⟩:=hφ;subst b;obtain⟨a1,a2⟩:=key True ⟨a,trivial⟩;exact⟨a1,a2.denil⟩
   cases e
  cases e
 rename_i hd
 split at e
 ·rename_i Tx x y ho
  split at e
  ·rename_i p hp
   split at e
   ·rename_i v hv
    unfold QA2 at e
    split at e
    ·rename_i b i off v
     split at e
     ·rename_i cs hb
      split at e
      ·split at e
       ·rename_i k hk
        replace e:=Qaf e;obtain⟨e2,e⟩:=e
        cases e
        simp only [QB]at e2
        obtain⟨⟨⟨a1,a2⟩,a3⟩,a4⟩:=e2
        exact⟨hφ,Stp.storeL ho hd hp hb hv (V.isV_or a1) (ok.sz hk) (QaL a2) a3 a4 rfl⟩
       cases e
      cases e
     cases e
    cases e
   cases e
  cases e
 cases e
theorem QAb {o:Oper}{σ σ':St}{φ φ':Prop}{rs':List (List V)}{m d Tx Ty:Nat}{x y:Operand}{p v:V}(ok:QdJ P T)(hN:Qdb P C n)(ho:o.op=.call { callee:=.builtin .append,args:=#[x,y],argTypes:=#[Tx,Ty] })(hd:o.dst=some d)
  (hx:σ.opd x=some p) (hy:σ.opd y=some v) (e:QB1 T n σ φ rs' m d Tx Ty p v=some (σ',φ')) (hφ:φ'):φ/\Stp P C o σ σ':=by
 have hn:=hN.n
 unfold QB1 at e
 split at e
 ·rename_i b k y'
  split at e
  ·rename_i z rs hb
   split at e
   ·rename_i et z' by_ hes
    split at e
    ·rename_i zs hz
     replace e:=Qaf e;obtain⟨e1,e⟩:=e
     simp only [QB,Qe4]at e1
     obtain⟨⟨⟨⟨⟨⟨a1,a2⟩,a3⟩,a4⟩,a5⟩,a6⟩,a7⟩:=e1
     have a4:=QaL a4;subst a4
     have a5:=QaL a5
     have a6:z≠0:=fun h0=>by rw [h0]at a6;cases a6
     rw [<-hn]at a2
     obtain⟨⟨e2,z2,by2⟩,hU⟩:∃q,Qav P Ty=some q:=by
      cases hl:look T.es Ty with
      | none=>rw [hl]at a1;cases a1
      | some q=>exact⟨q,ok.es hl⟩
     split at e
     ·rename_i z'' us
      replace e:=Qaf e;obtain⟨e3,e⟩:=e
      have:=QaL e3;subst this
      cases e
      obtain⟨h0,h1,h2,h3,h4⟩:=hφ
      exact⟨h0,Stp.appS ho hd a2 hx hb a3 h1 (ok.es hes) hU (ok.zv hz) a5 a6 a7 h2 hy h3 h4⟩
     ·rename_i b' k'
      split at e
      ·rename_i z'' us hb'
       replace e:=Qaf e;obtain⟨e3,e⟩:=e
       have:=QaL e3;subst this
       cases e
       obtain⟨h0,h1,h2,h3,h4,h5⟩:=hφ
       exact⟨h0,Stp.appO ho hd a2 hx hb a3 h1 (ok.es hes) hU (ok.zv hz) a5 a6 a7 h2 hy hb' h3 h4 h5⟩
      cases e
     ·cases e
      obtain⟨h0,h1,h2⟩:=hφ
      exact⟨h0,Stp.appN ho hd a2 hx hb a3 h1 (ok.es hes) hU (ok.zv hz) a5 a6 a7 h2 hy⟩
     cases e
    cases e
   cases e
  cases e
 cases e
theorem Qy0 {o:Oper}{σ σ':St}{φ φ':Prop}{Tx:TypeId}{x y:Operand}{p v:V}{r:List V}{rs':List (List V)}(ok:QdJ P T)(ho:o.op=.store Tx x y)(hd:o.dst=none)(hx:σ.opd x=some p)(hy:σ.opd y=some v)
  (e:storeA T Tx σ φ r rs' p v=some (σ',φ')) (hφ:φ'):φ/\Stp P C o σ σ':=by
 unfold storeA at e
 split at e
 ·rename_i b i off v
  split at e
  ·rename_i z rs hb
   split at e
   ·rename_i k hk
    replace e:=Qaf e;obtain⟨e2,e⟩:=e
    cases e
    simp only [QB]at e2
    obtain⟨⟨⟨⟨a1,a2⟩,a3⟩,a4⟩,a5⟩:=e2
    exact⟨hφ.1,Stp.storeA ho hd hx hb hφ.2.1 hy (V.isV_or a1) (ok.sz hk) (QaL a2) a3 a4 a5 hφ.2.2⟩
   cases e
  cases e
 cases e
theorem R.say {σ:St}{t:Nat}{v:V}(h:∃u,look σ.fr t=some u/\u=v){a:Act}{w:World}(hR:R C σ a w):R C (σ.put t v) a w:=by
 obtain⟨u,hu,rfl⟩:=h
 obtain⟨φ,hr⟩:=hR
 obtain⟨x,hx,hrep⟩:=hr.frame t _ hu
 exact⟨φ,hr.say hx hrep⟩
theorem RR.sayOb (h:RR C φ σ a w){b:Nat}{ob ob':Ob}(hb:look σ.hp b=some ob)(hs:∀B,φ b=some B->QbN φ (Imm C φ w) w B ob->QbN φ (Imm C φ w) w B ob')(he:ob=ob'\/¬ob.Nil):RR C φ (σ.set b ob') a w:=by
 rcases he with rfl | hne
 ·refine⟨h.os,h.tape,h.output,h.size,h.kept,h.inj,fun o B hB=>?_,h.lt,h.new,h.stay.set hb,h.tmps,h.defers,h.frame,fun o ob'' ho=>?_⟩
  ·by_cases e:o=b
   ·subst e;exact⟨_,σ.look_set_same _ _⟩
   rw [σ.look_set_other _ (Ne.symm e)];exact h.dom o B hB
  by_cases e:o=b
  ·subst e;rw [σ.look_set_same]at ho;cases ho;exact h.heap _ _ hb
  rw [σ.look_set_other _ (Ne.symm e)]at ho;exact h.heap _ _ ho
 exact h.say' hb hs hne
theorem R.sayO {σ:St}{b:Nat}{ob:Ob}(h:∃u,look σ.hp b=some u/\u=ob){a:Act}{w:World}(hR:R C σ a w):R C (σ.set b ob) a w:=by
 obtain⟨u,hu,rfl⟩:=h
 obtain⟨φ,hr⟩:=hR
 exact⟨φ,hr.sayOb hu (fun _ _ h=>h) (.inl rfl)⟩
theorem R.denil {σ:St}{t:Nat}{v:V}{ms:List (Option Nat)}(h:look σ.fr t=some v){a:Act}{w:World}(hR:R C σ a w):R C (σ.put t (v.denil ms)) a w:=by
 obtain⟨φ,hr⟩:=hR
 obtain⟨x,hx,hrep⟩:=hr.frame t _ h
 exact⟨φ,hr.say hx hrep.denil⟩
theorem R.denilO {σ:St}{b:Nat}{cs:List V}{ms:List (Option Nat)}(h:look σ.hp b=some (.var cs)){a:Act}{w:World}(hR:R C σ a w):R C (σ.set b (.var (QdU ms cs))) a w:=by
 obtain⟨φ,hr⟩:=hR
 refine⟨φ,hr.sayOb h (fun B hB hrep=>?_) (.inr fun e=>e.elim)⟩
 obtain⟨xs,E,h1,h2,h0,h3⟩:=hrep
 refine⟨xs,E,h1,by rw [Qsh];exact h2,h0,fun j x v hx hv=>?_⟩
 obtain⟨m,v',hv',rfl⟩:=Qo7 _ _ j v hv
 exact(h3 j x v' hx hv').den1
section
variable {hp:List (Nat×Ob)}{g:Bool}{bad:List Nat}{m:Nat->Nat->Prop}{bk:Nat->Option Nat}
theorem QtR (hm:∀a b,bk a=some b->m a b):∀(v:V) {u:V},trC bk v=some u->Vw hp g false bad m v u
 | .own a n,u,h=>by rw [trC]at h;split at h<;>first | (rename_i b hb;cases h;exact .own _ _ _ (hm _ _ hb)) | cases h
 | .loc a i d,u,h=>by rw [trC]at h;split at h<;>first | (rename_i b hb;cases h;exact .loc _ _ _ _ (hm _ _ hb)) | cases h
 | .map a,u,h=>by rw [trC]at h;split at h<;>first | (rename_i b hb;cases h;exact .map _ _ (hm _ _ hb)) | cases h
 | .ifc t x,u,h=>by
  rw [trC]at h
  split at h
  ·rename_i y hy;cases h;exact .ifc _ _ _ (QtR hm x hy)
  cases h
 | .b _,u,h | .i _ _,u,h | .s _,u,h | .sl _ _,u,h | .sln _ _ _,u,h | .e0,u,h | .ro _,u,h | .agg _,u,h | .tup _,u,h | .clo _ _ _,u,h | .lit _,u,h | .J,u,h=>by
  have h:=Qaf (show(bif V.datA _ then some _ else none)=some u from h)
  obtain⟨h1,h2⟩:=h
  cases h2
  exact .dat _ h1 (fun e=>by cases e)
theorem QnB (hm:∀a b,bk a=some b->m a b):∀{vs us:List V},trL bk vs=some us->vs.length=us.length/\∀(j:Nat) c u,vs[j]? = some c->us[j]? = some u->Vw hp g false bad m c u:=by
 intro vs
 induction vs with
 | nil=>intro us h;cases h;simp
 | cons v vs ih=>
  intro us h
  rw [trL]at h
  split at h
  ·rename_i u hu
   split at h
   ·rename_i us' hus
    cases h
    obtain⟨a,b⟩:=ih hus
    refine⟨by simp [a],fun j c w hc hw=>?_⟩
    cases j with
    | zero=>simp at hc hw;subst hc;subst hw;exact QtR hm _ hu
    | succ j=>simp at hc hw;exact b j c w hc hw
   cases h
  cases h
theorem QjN (hm:∀a b,bk a=some b->m a b){v u:V}(h:trV bk v=some u):Vw hp g false bad m v u:=by
 unfold trV at h
 split at h
 ·rename_i cs
  cases hd:(V.agg cs).datA with
  | true=>rw [hd]at h;cases h;exact .dat _ hd (fun e=>by cases e)
  | false=>
   rw [hd]at h;dsimp only [cond_false]at h
   split at h
   ·rename_i us hus;cases h;obtain⟨a,b⟩:=QnB hm hus;exact .agg _ _ a b
   cases h
 ·rename_i cs
  cases hd:(V.tup cs).datA with
  | true=>rw [hd]at h;cases h;exact .dat _ hd (fun e=>by cases e)
  | false=>
   rw [hd]at h;dsimp only [cond_false]at h
   split at h
   ·rename_i us hus;cases h;obtain⟨a,b⟩:=QnB hm hus;exact .tup _ _ a b
   cases h
 ·split at h
  ·rename_i us hus
   split at h
   ·rename_i ds hds;cases h;obtain⟨a,b⟩:=QnB hm hus;obtain⟨a',b'⟩:=QnB hm hds;exact .clo _ _ _ _ _ a a' b b'
   cases h
  cases h
 exact QtR hm _ h
theorem QwE (hm:∀a b,bk a=some b->m a b):∀{vs us:List V},QyY bk vs=some us->vs.length=us.length/\∀(j:Nat) c u,vs[j]? = some c->us[j]? = some u->Vw hp g false bad m c u:=by
 intro vs
 induction vs with
 | nil=>intro us h;cases h;simp
 | cons v vs ih=>
  intro us h
  rw [QyY]at h
  split at h
  ·rename_i u hu
   split at h
   ·rename_i us' hus
    cases h
    obtain⟨a,b⟩:=ih hus
    refine⟨by simp [a],fun j c w hc hw=>?_⟩
    cases j with
    | zero=>simp at hc hw;subst hc;subst hw;exact QjN hm hu
    | succ j=>simp at hc hw;exact b j c w hc hw
   cases h
  cases h
theorem QA4 (hm:∀a b,bk a=some b->m a b){ob ob':Ob}(h:trO bk ob=some ob'):ObW hp g false bad m ob ob':=by
 unfold trO at h
 split at h
 ·split at h
  ·rename_i us hus;cases h;obtain⟨a,b⟩:=QwE hm hus;exact .var _ _ a b
  cases h
 ·split at h
  ·rename_i us hus;cases h;obtain⟨a,b⟩:=QwE hm hus;exact .lp _ _ _ _ _ a b
  cases h
 ·cases h;exact .arr _ _ (fun e=>by cases e)
 ·cases h;exact .map _ (fun e=>by cases e)
 ·cases h;exact .grp _ _ _ rfl
 ·cases h;exact .tbl _ _ _ rfl
 cases h
theorem QgX (hm:∀a b,bk a=some b->m a b):∀{ms:List Qel} {vs us:List V},Qke bk ms vs=some us->Vws hp g false bad m vs us:=by
 intro ms
 induction ms with
 | nil=>intro vs us h;cases vs with
  | nil=>cases h;exact .nil
  | cons=>cases h
 | cons md ms ih=>
  intro vs us h
  cases vs with
  | nil=>cases h
  | cons v vs=>
   rw [Qke]at h
   split at h
   ·rename_i u hu
    split at h
    ·rename_i us' hus
     cases h
     refine .cons ?_ (ih hus)
     unfold QDj at hu
     split at hu
     ·cases hu;exact .nil _
     ·exact QjN hm hu
     ·rename_i n cs
      split at hu
      ·rename_i us2 hus2
       split at hu
       ·rename_i hj
        cases hu
        obtain⟨a,b⟩:=QnB hm hus2
        refine .agg _ _ (by rw [<-a];simp) fun j c w hc hw=>?_
        by_cases e:j=n
        ·subst e;rw [hj]at hw;cases hw;exact .forget _
        exact b j c w (by rw [List.getElem?_set,if_neg (Ne.symm e)];exact hc) hw
       cases hu
      cases hu
     cases hu
    cases h
   cases h
theorem Qcv (hm:∀a b,bk a=some b->m a b){src:List (Nat×Ob)}:∀{M:List (Nat×Nat)} {l:List (Nat×Ob)},Qgq bk (look src) M=some l->QiN hp g false bad m src M l:=by
 intro M
 induction M with
 | nil=>intro l h;cases h;exact .nil
 | cons p M ih=>
  intro l h
  obtain⟨d,s⟩:=p
  rw [Qgq]at h
  split at h
  ·rename_i ob hob
   split at h
   ·rename_i ob' hob'
    split at h
    ·rename_i l' hl;cases h;exact .cons hob (QA4 hm hob') (ih hl)
    cases h
   cases h
  cases h
theorem Qe5 : ∀{M:List (Nat×Nat)} {a b:Nat},bkM M a=some b->(b,a)∈M:=by
 intro M
 induction M with
 | nil=>intro a b h;cases h
 | cons p M ih=>
  intro a b h
  obtain⟨b',a'⟩:=p
  rw [bkM]at h
  cases hb:Nat.beq a' a with
  | true=>rw [hb]at h;cases h;rw [QaL hb];exact Qbz
  | false=>rw [hb]at h;exact Qb1 _ (ih h)
end
theorem QAc {o:Oper}{σ:St}{φ φ':Prop}{c:Call}{en:Ent}{f:Nat}{vs:List V}(ok:QdJ P T)(ho:o.op=.call c)(e:QB0 P T σ φ c en=some (f,vs,φ'))(hφ:φ'):φ/\Qbb P C o σ f vs:=by
 obtain⟨ce,ags,ts⟩:=c
 unfold QB0 at e
 split at e
 ·split at e
  ·rename_i f' hc
   dsimp only at hc;subst hc
   replace e:=Qaf e;obtain⟨e1,e⟩:=e
   split at e
   ·rename_i vs' hv;cases e;exact⟨hφ,Qbb.fn ho (ok.en e1) (QfU (fun _ _ h=>h) hv)⟩
   cases e
  cases e
 ·split at e
  ·rename_i x hc
   dsimp only at hc;subst hc
   split at e
   ·rename_i f' fs cs hx
    replace e:=Qaf e;obtain⟨e1,e⟩:=e
    split at e
    ·rename_i vs' hv;cases e;exact⟨hφ,Qbb.clo ho hx (ok.en e1) (QfU (fun _ _ h=>h) hv)⟩
    cases e
   cases e
  cases e
 ·split at e
  ·rename_i x name hc
   dsimp only at hc;subst hc
   split at e
   ·rename_i t u hx
    replace e:=Qaf e;obtain⟨e1,e⟩:=e
    split at e
    ·rename_i vs' hv;cases e;exact⟨hφ.1,Qbb.meth (r:=u) ho hx hφ.2 (ok.en e1) (QfU (fun _ _ h=>h) hv)⟩
    cases e
   cases e
  cases e
 split at e
 ·rename_i x name hc
  dsimp only at hc;subst hc
  split at e
  ·rename_i t b off hx
   split at e
   ·rename_i cs hb
    split at e
    ·rename_i r hr0
     replace e:=Qaf e;obtain⟨e1,e⟩:=e
     split at e
     ·rename_i vs' hv;cases e;exact⟨hφ.1,Qbb.methV ho hx hφ.2.1 hφ.2.2.1 hφ.2.2.2 hb hr0 (ok.en e1) (QfU (fun _ _ h=>h) hv)⟩
     cases e
    cases e
   cases e
  cases e
 cases e
theorem QA5 {o:Oper}{σ σ':St}{φ φ':Prop}{d f:Nat}{vs:List V}{M N:List (Nat×Nat)}{dead:List Nat}{ms:List Qel}{outs:List (Nat×Ob)}{r:V}(hE:Qbb P C o σ f vs)(hd:o.dst=some d)(hn:Nat.ble (d+1) C.n=true)(hpg:C.pg P)
  (e:cmV P σ φ d f vs M N dead ms outs r=some (σ',φ')) (hφ:φ'):φ/\Stp P C o σ σ':=by
 unfold cmV at e
 replace e:=Qaf e;obtain⟨e1,e⟩:=e
 simp only [QB]at e1
 obtain⟨⟨h1,h2⟩,h3⟩:=e1
 have h2:=Qb4.1 h2
 have h3:=Qb4.1 h3
 have inj:QgW M=true/\QgW N=true:=by
  simp only [QcL,QB]at h1
  exact⟨h1.1.1.1,h1.1.1.2⟩
 have mM:∀a b,bkM M a=some b->look M b=some a:=fun a b h=>Qbc inj.1 (Qe5 h) h2
 have mN:∀a b,bkM N a=some b->look N b=some a:=fun a b h=>Qbc inj.2 (Qe5 h) h3
 split at e
 ·rename_i us hus
  split at e
  ·rename_i hsC hC
   split at e
   ·rename_i hsN hN
    split at e
    ·rename_i r' hr
     cases e
     exact⟨hφ.1,Stp.callM (g:=false) hE hd hn hpg h1 h2 (QgX mM hus) (Qcv mM hC) hφ.2 (Qcv mN hN) (QjN mN hr)⟩
    cases e
   cases e
  cases e
 cases e
theorem QB4 {l:List (Nat×V)}:∀{ts:List Nat} {r:List (Nat×V)},QhX l ts=some r->Qi3 l r:=by
 intro ts
 induction ts with
 | nil=>intro r h;cases h;trivial
 | cons t ts ih=>
  intro r h
  rw [QhX]at h
  split at h
  ·rename_i v hv
   split at h
   ·rename_i r' hr;cases h;exact⟨hv,ih hr⟩
   cases h
  cases h
theorem QB5 {l:List (Nat×Ob)}:∀{ts:List Nat} {r:List (Nat×Ob)},QhX l ts=some r->Qg9 l r:=by
 intro ts
 induction ts with
 | nil=>intro r h;cases h;trivial
 | cons t ts ih=>
  intro r h
  rw [QhX]at h
  split at h
  ·rename_i v hv
   split at h
   ·rename_i r' hr;cases h;exact⟨hv,ih hr⟩
   cases h
  cases h
theorem RR.thawN {β:Nat}(hβ:β<=C.w0.heap.size)(hr:RR C φ σ a w){b n z:Nat}{rs us:List (List V)}(hp:Nat.ble 614 b=false)(hb:look σ.hp b=some (.arr z rs)){x:Value}(hrep:Rep φ (Imm C φ w) w x (.own b n))(hle:n<=rs.length)(hu:rs.take n=us):
  Dat (Imm C (del φ b) w) w x (.sln β z us):=by
 subst hu
 rcases hrep.own_inv with⟨rfl,rfl⟩|⟨B,hB,hcap,rfl⟩
 ·simp only [Qsb];exact .sln0 _ _ _ _
 obtain⟨rfl,hrl,hok,cs,E,h1,h2,h3⟩:=hr.block hB hb
 have hnew:C.w0.heap.size<=B.b:=by
  have hb':b<614:=by
   rcases QeR b 614 with h | h
   ·exact h
   rw [Qqo h]at hp;cases hp
  exact hr.new b B _ hB B.self hb'
 have hIb:Imm C (del φ b) w B.b:=by
  refine⟨(hr.lt b B _ hB B.self).1,fun hlt=>by omega,fun o B' hB' e=>?_⟩
  obtain⟨h4,h5⟩:=Qb3 hB'
  exact h4 (hr.inj o b B' B _ h5 hB e B.self)
 have hle2:n*B.z<=B.cap*B.z:=Qct _ hcap
 refine .sln β B.b B.off n B.cap B.z _ cs E (QbM hβ hnew) hIb (by simp;omega) hcap (fun r hr'=>hok r (QeQ hr')) h1 (by omega) (fun i r hi j v hj=>?_)
 have hi':rs[i]? = some r:=by
  rw [Qbx]at hi
  by_cases hin:i<n
  ·rwa [if_pos hin]at hi
  rw [if_neg hin]at hi;simp at hi
 obtain⟨y,hy,hd⟩:=h3 i r hi' j v hj
 have:cs.getD (B.off+(i*B.z+j)) undef=y:=by simp [Qo0,hy]
 rw [this]
 exact hd.mono fun k hk=>⟨hk.of_del,rfl⟩
theorem RR.thaw (hr:RR C φ σ a w){b n z:Nat}{rs us:List (List V)}(hp:Nat.ble 614 b=false)(hb:look σ.hp b=some (.arr z rs)){x:Value}(hrep:Rep φ (Imm C φ w) w x (.own b n))(hle:n<=rs.length)(hu:rs.take n=us):
  Rep (del φ b) (Imm C (del φ b) w) w x (.sl z us):=.dat (hr.thawN (Qnl _) hp hb hrep hle hu).lo1
def Frz (C:Ctx)(s:V)(z:Nat)(us:List (List V)):Prop:=s=.sl z us\/∃β,s=.sln β z us/\β<=C.w0.heap.size
theorem RR.thawU {s:V}{z:Nat}{us:List (List V)}(hs:Frz C s z us)(hr:RR C φ σ a w){b n:Nat}{rs:List (List V)}(hp:Nat.ble 614 b=false)(hb:look σ.hp b=some (.arr z rs)){x:Value}(hrep:Rep φ (Imm C φ w) w x (.own b n))(hle:n<=rs.length)(hu:rs.take n=us):
  Rep (del φ b) (Imm C (del φ b) w) w x s:=by
 rcases hs with rfl | ⟨β,rfl,hβ⟩
 ·exact hr.thaw hp hb hrep hle hu
 exact .dat (hr.thawN hβ hp hb hrep hle hu)
section
variable {b z:Nat}{rs us:List (List V)}{σ0:St}{s:V}
theorem RR.frzC (hs:Frz C s z us)(hr:RR C φ σ a w)(hp:Nat.ble 614 b=false)(hb:look σ.hp b=some (.arr z rs)){x:Value}{v:V}(h:Rep φ (Imm C φ w) w x v)(hq:QyZ b rs us v)(hf:v.freeC b=true\/∃k,v=.own b k):
  Rep (del φ b) (Imm C (del φ b) w) w x (v.frzC b s):=by
 rcases hf with hf | ⟨k,rfl⟩
 ·have:v.frzC b s=v:=by
   unfold V.frzC
   split
   ·rename_i o k
    have:Nat.beq o b=false:=by simpa [V.freeC,V.freeN] using hf
    rw [this];rfl
   rfl
  rw [this]
  exact Rep.freeC (fun o B ho hB=>by rw [Qec ho];exact hB) (fun k hk=>⟨hk.of_del,rfl⟩) h hf
 have e:Nat.beq b b=true:=Nat.beq_refl b
 simp only [QyZ,e,cond_true]at hq
 simp only [V.frzC,e,cond_true]
 exact RR.thawU hs hr hp hb h hq.1 hq.2
theorem Qya {cs:List V}(h:Qsr b rs us cs):∀(j:Nat) v,cs[j]? = some v->QyZ b rs us v:=by
 induction cs with
 | nil=>intro j v hj;simp at hj
 | cons c cs ih=>
  intro j v hj
  have h2:Qsr b rs us cs:=by
   unfold Qsr at h
   split at h
   ·rename_i e;cases e
   ·rename_i e;cases e;exact h.2
   rename_i e;cases e;exact h
  cases j with
  | zero=>
   simp at hj;subst hj
   cases c with
   | own o k=>exact h.1
   | _=>trivial
  | succ j=>exact ih h2 j v (by simpa using hj)
end
section
variable {b z:Nat}{rs us:List (List V)}{σ0:St}{s:V}
theorem Qy1 {v:V}(h:(v.freeC b||v.isOwn b)=true):v.freeC b=true\/∃k,v=.own b k:=by
 rw [Qcs]at h
 rcases h with h | h
 ·exact .inl h
 unfold V.isOwn at h
 split at h
 ·rename_i o k;rw [QaL h];exact .inr ⟨k,rfl⟩
 cases h
theorem RR.frzV (hz:Frz C s z us)(hr:RR C φ σ0 a w)(hp:Nat.ble 614 b=false)(hb:look σ0.hp b=some (.arr z rs)){x:Value}{v:V}(h:Rep φ (Imm C φ w) w x v)(hq:QB2 b rs us v)(hf:v.frzB b=true):
  Rep (del φ b) (Imm C (del φ b) w) w x (v.frz b s):=by
 unfold V.frz
 unfold QB2 at hq
 unfold V.frzB at hf
 split at hq
 ·rename_i cs
  obtain⟨xs,rfl,hs,hc⟩:=h.agg_inv
  refine .agg xs _ (by simpa using hs) fun j y u hy hu=>?_
  rw [Qak]at hu
  obtain⟨c,hcj,rfl⟩:=Qas.1 hu
  dsimp only at hf
  rw [Qad]at hf
  exact RR.frzC hz hr hp hb (hc j y c hy hcj) (Qya hq j c hcj) (Qy1 (hf c (Qaa hcj)))
 rename_i hne
 have hf':(v.freeC b||v.isOwn b)=true:=by
  split at hf
  ·exact absurd rfl (hne _)
  exact hf
 exact RR.frzC hz hr hp hb h hq (Qy1 hf')
theorem QAd (hs:Frz C s z us)(hr:RR C φ σ0 a w)(hp:Nat.ble 614 b=false)(hb:look σ0.hp b=some (.arr z rs)):∀{ts:List Nat} {σ σ':St} {ψ ψ':Prop},QtP b s rs us σ0 ts σ ψ=some (σ',ψ')->ψ'->ψ/\(RR C (del φ b) σ a w->RR C (del φ b) σ' a w):=by
 intro ts
 induction ts with
 | nil=>intro σ σ' ψ ψ' h h';cases h;exact⟨h',id⟩
 | cons t ts ih=>
  intro σ σ' ψ ψ' h h'
  rw [QtP]at h
  split at h
  ·rename_i v hv
   replace h:=Qaf h;obtain⟨h0,h⟩:=h
   obtain⟨⟨h1,h2⟩,h3⟩:=ih h h'
   refine⟨h1,fun k=>h3 ?_⟩
   obtain⟨x,hx,hrep⟩:=hr.frame t v hv
   exact k.say hx (RR.frzV hs hr hp hb hrep h2 h0)
  cases h
theorem QAe (hs:Frz C s z us)(hr:RR C φ σ0 a w)(hp:Nat.ble 614 b=false)(hb:look σ0.hp b=some (.arr z rs)):∀{os:List Nat} {σ σ':St} {ψ ψ':Prop},Qxw b s rs us σ0 os σ ψ=some (σ',ψ')->ψ'->ψ/\(RR C (del φ b) σ a w->(∀p cs ob,look σ0.hp p=some (.var cs)->look σ.hp p=some ob->¬ob.Nil)->RR C (del φ b) σ' a w):=by
 intro os
 induction os with
 | nil=>intro σ σ' ψ ψ' h h';cases h;exact⟨h',fun k _=>k⟩
 | cons p ps ih=>
  intro σ σ' ψ ψ' h h'
  rw [Qxw]at h
  split at h
  ·rename_i cs hcs
   replace h:=Qaf h;obtain⟨h0,h⟩:=h
   simp only [QB,Qe4]at h0
   obtain⟨⟨g1,g2⟩,g3⟩:=h0
   obtain⟨⟨h1,h2⟩,h3⟩:=ih h h'
   refine⟨h1,fun k hv=>h3 ?_ ?_⟩
   ·have hne:p≠b:=fun e=>by subst e;rw [Nat.beq_refl]at g1;cases g1
    obtain⟨ob,hob⟩:=Option.isSome_iff_exists.1 g3
    refine k.sayOb hob (fun B hB _=>?_) (.inr (hv p cs ob hcs hob))
    obtain⟨_,hB'⟩:=Qb3 hB
    rcases hr.heap p _ hcs with⟨B',hB'',hrep⟩|⟨hn,_⟩
    ·rw [hB']at hB'';cases hB''
     obtain⟨xs,E,e1,e2,e0,e3⟩:=hrep
     refine⟨xs,E,e1,by simpa using e2,e0,fun j x v hx hv'=>?_⟩
     rw [Qak]at hv'
     obtain⟨c,hcj,rfl⟩:=Qas.1 hv'
     rw [Qad]at g2
     exact RR.frzC hs hr hp hb (e3 j x c hx hcj) (Qya h2 j c hcj) (Qy1 (g2 c (Qaa hcj)))
    rw [hn]at hB';cases hB'
   intro p' cs' ob' e1 e2 e3
   by_cases e:p=p'
   ·subst e;rw [St.look_set_same]at e2;cases e2;exact e3.elim
   rw [St.look_set_other _ _ e]at e2;exact hv p' cs' ob' e1 e2 e3
  cases h
end
theorem R.frz {b z:Nat}{rs us:List (List V)}{s:V}(hs:Frz C s z us){σ σ1 σ2:St}{ts os:List Nat}{φ1 φ2:Prop}(hp:Nat.ble 614 b=false)(hb:look σ.hp b=some (.arr z rs))(h1:QtP b s rs us σ ts (σ.kill b) True=some (σ1,φ1))(h2:Qxw b s rs us σ os σ1 φ1=some (σ2,φ2))(hφ:φ2)
  {a:Act} {w:World} (hR:R C σ a w):R C σ2 a w:=by
 obtain⟨φ,hr⟩:=hR
 obtain⟨e1,e2⟩:=QAe hs hr hp hb h2 hφ
 obtain⟨_,e3⟩:=QAd hs hr hp hb h1 e1
 refine⟨_,e2 (e3 (hr.kill b)) fun p cs ob g1 g2 g3=>?_⟩
 have key:∀{ts:List Nat} {σ' σ'':St} {ψ ψ':Prop},QtP b s rs us σ ts σ' ψ=some (σ'',ψ')->σ''.hp=σ'.hp:=by
  intro ts
  induction ts with
  | nil=>intro σ' σ'' ψ ψ' h;cases h;rfl
  | cons t ts ih=>
   intro σ' σ'' ψ ψ' h
   rw [QtP]at h
   split at h
   ·replace h:=Qaf h;obtain⟨_,h⟩:=h
    rw [ih h];rfl
   cases h
 rw [key h1]at g2
 obtain⟨_,ob',h5,h6⟩:=QcS _ _ _ g2
 rw [g1]at h5;cases h5
 subst h6;exact g3.elim
theorem R.adoptO {σ:St}{p i b z:Nat}{cs:List V}(hpb:Nat.beq p b=false)(hp:look σ.hp p=some (.var cs))(hi:cs[i]? = some (.lit (.slice none 0 0)))(hlt:b<616)(hb:look σ.hp b=none){a:Act}{w:World}(hR:R C σ a w):
  R C ((σ.set b (.arr z [])).set p (.var (cs.set i (.own b 0)))) a w:=by
 obtain⟨φ,hr⟩:=hR
 have hne:b≠p:=fun e=>by subst e;rw [Nat.beq_refl]at hpb;cases hpb
 have h1:=hr.setNil (z:=z) hlt hb
 have hp':look (σ.set b (.arr z [])).hp p=some (.var cs):=by rw [St.look_set_other _ _ hne];exact hp
 refine⟨φ,h1.sayOb hp' (fun B hB hrep=>?_) (.inr fun e=>e.elim)⟩
 obtain⟨xs,E,e1,e2,e0,e3⟩:=hrep
 refine⟨xs,E,e1,by simpa using e2,e0,fun j x v hx hv=>?_⟩
 rw [List.getElem?_set]at hv
 split at hv
 ·rename_i hij;subst hij
  split at hv
  ·cases hv
   have:=e3 i x _ hx hi
   rw [this.lit_inv];exact .own0 b
  cases hv
 exact e3 j x v hx hv
theorem QAf {d:Dir}{pt:Pt}{ks:List Fr}{σ:St}{φ:Prop}{c:Cfg}(ok:QdJ P T)(hN:Qdb P C n)(e:QB3 P C T n d pt ks σ φ=some c):QAa P C Q pt ks σ φ c:=by
 have hn:=hN.n
 unfold QB3 at e
 split at e
 ·split at e
  ·rename_i hw
   split at e
   ·rename_i hs;cases e;exact fun hφ=>let ⟨a,b⟩:=QtQ ok hN hs hφ;⟨a,fun k=>AL.want hw b k⟩
   cases e
  cases e
 ·split at e
  ·rename_i hw
   split at e
   ·rename_i hs;cases e;exact fun hφ=>let ⟨a,b⟩:=QtQ ok hN hs hφ;⟨a,fun k=>AL.want hw b k⟩
   cases e
  cases e
 ·split at e
  ·rename_i hw
   split at e
   ·rename_i hd
    split at e
    ·rename_i ho
     split at e
     ·rename_i hp
      split at e
      ·rename_i hv
       split at e
       ·rename_i hs;cases e;exact fun hφ=>let ⟨a,b⟩:=Qy0 ok ho hd hp hv hs hφ;⟨a,fun k=>AL.want hw b k⟩
       cases e
      cases e
     cases e
    cases e
   cases e
  cases e
 ·split at e
  ·rename_i hw
   split at e
   ·rename_i hd
    split at e
    ·rename_i cl ho
     obtain⟨ce,ags,ts⟩:=cl
     split at e
     ·rename_i hce
      dsimp only at hce e;subst hce
      split at e
      ·rename_i x y hxy
       split at e
       ·rename_i Tx Ty hT
        split at e
        ·rename_i p hp
         split at e
         ·rename_i v hv
          split at e
          ·rename_i hs
           have ea:ags=#[x,y]:=by rw [<-Qql (xs:=ags),hxy]
           have et:ts=#[Tx,Ty]:=by rw [<-Qql (xs:=ts),hT]
           subst ea;subst et
           cases e;exact fun hφ=>let ⟨a,b⟩:=QAb ok hN ho hd hp hv hs hφ;⟨a,fun k=>AL.want hw b k⟩
          cases e
         cases e
        cases e
       cases e
      cases e
     cases e
    cases e
   cases e
  cases e
 ·split at e
  ·rename_i hw
   cases e;exact fun hφ=>⟨hφ.1,fun k=>AL.want hw hφ.2 k⟩
  cases e
 ·split at e
  ·rename_i hw
   split at e
   ·rename_i d hd
    replace e:=Qaf e;obtain⟨e1,e⟩:=e
    rw [<-hn]at e1
    split at e
    ·rename_i cl ho
     split at e
     ·rename_i f vs φ1 he
      split at e
      ·rename_i hs
       cases e
       refine fun hφ=>?_
       have h0:φ1:=by
        have hs':=hs
        unfold cmV at hs'
        replace hs':=(Qaf hs').2
        repeat (split at hs'<;>first | (cases hs';exact hφ.1) | skip)
        all_goals cases hs'
       obtain⟨a,b⟩:=QAc (C:=C) ok ho he h0
       obtain⟨_,b'⟩:=QA5 b hd e1 hN.g hs hφ
       exact⟨a,fun k=>AL.want hw b' k⟩
      cases e
     cases e
    cases e
   cases e
  cases e
 ·split at e
  ·rename_i hc
   split at e
   ·cases e;exact fun hφ=>⟨hφ.1,fun k=>AWp.condT hc hφ.2 k⟩
   cases e;exact fun hφ=>⟨hφ.1,fun k=>AWp.condF hc hφ.2 k⟩
  cases e
 ·split at e
  ·rename_i u hu;cases e;exact fun hφ=>⟨hφ.1,AK.weaken fun a w=>R.say ⟨u,hu,hφ.2⟩⟩
  cases e
 ·split at e
  ·rename_i u hu;cases e;exact fun hφ=>⟨hφ.1,AK.weaken fun a w=>R.sayO ⟨u,hu,hφ.2⟩⟩
  cases e
 ·cases e;exact fun hφ=>⟨hφ.1,AK.weaken fun a w hR=>hR.to hφ.2.1 hφ.2.2.1 hφ.2.2.2⟩
 ·split at e
  ·rename_i b k ht
   split at e
   ·rename_i z rs hb
    replace e:=Qaf e;obtain⟨e1,e⟩:=e
    rw [Qe4]at e1
    cases e;exact fun hφ=>⟨hφ.1,AK.weaken fun a w hR=>hR.freeze e1 ht hb hφ.2.1 hφ.2.2⟩
   cases e
  cases e
 ·split at e
  ·rename_i ht
   split at e
   ·rename_i hb
    cases hbl:Nat.ble 616 _ with
    | true=>rw [hbl]at e;cases e
    | false=>rw [hbl]at e;cases e;exact fun hφ=>⟨hφ,AK.weaken fun a w hR=>hR.adopt (Qfg (by rw [hbl];rfl)) ht hb⟩
   cases e
  cases e
 ·split at e
  ·rename_i v hv;cases e;exact fun hφ=>⟨hφ,AK.weaken fun a w hR=>hR.denil hv⟩
  cases e
 ·split at e
  ·rename_i v hv;cases e;exact fun hφ=>⟨hφ,AK.weaken fun a w hR=>hR.denilO hv⟩
  cases e
 ·replace e:=Qaf e;obtain⟨e1,e⟩:=e
  simp only [QB,Qe4,Option.isNone_iff_eq_none]at e1
  cases e;exact fun hφ=>⟨hφ,AK.weaken fun a w hR=>hR.ren _ _ e1.1.1 e1.1.2 e1.2⟩
 ·cases e;exact fun hφ=>⟨hφ,AK.weaken fun a w hR=>hR.kill _⟩
 ·split at e
  ·rename_i z rs hb
   replace e:=Qaf e;obtain⟨e1,e⟩:=e
   rw [Qe4]at e1
   split at e
   ·rename_i σ1 φ1 h1
    split at e
    ·rename_i σ2 φ2 h2
     cases e;exact fun hφ=>⟨hφ.1,AK.weaken fun a w hR=>R.frz (.inl rfl) e1 hb h1 h2 hφ.2 hR⟩
    cases e
   cases e
  cases e
 ·split at e
  ·rename_i z rs hb
   replace e:=Qaf e;obtain⟨e1,e⟩:=e
   rw [Qe4]at e1
   split at e
   ·rename_i σ1 φ1 h1
    split at e
    ·rename_i σ2 φ2 h2
     cases e;exact fun hφ=>⟨hφ.1,AK.weaken fun a w hR=>R.frz (.inr ⟨_,rfl,hφ.2.2⟩) e1 hb h1 h2 hφ.2.1 hR⟩
    cases e
   cases e
  cases e
 ·split at e
  ·rename_i cs hcs
   split at e
   ·rename_i hi
    split at e
    ·rename_i hb
     cases hpb:Nat.beq _ _ with
     | true=>rw [hpb]at e;cases e
     | false=>
      rw [hpb]at e
      cases hbl:Nat.ble 616 _ with
      | true=>rw [hbl]at e;cases e
      | false=>rw [hbl]at e;cases e;exact fun hφ=>⟨hφ,AK.weaken fun a w hR=>R.adoptO hpb hcs hi (Qfg (by rw [hbl];rfl)) hb hR⟩
    cases e
   cases e
  cases e
 ·split at e
  ·rename_i hf
   split at e
   ·rename_i hp
    replace e:=Qaf e;obtain⟨e1,e⟩:=e
    cases e;exact fun hφ=>⟨hφ,AK.weaken fun a w hR=>hR.to (QB4 hf) (QB5 hp) e1⟩
   cases e
  cases e
 cases e
theorem QzB (ok:QdJ P T)(hN:Qdb P C n):∀(k:Nat) {pt:Pt} {ks:List Fr} {σ:St} {φ:Prop} {c:Cfg},plain P C T n k pt ks σ φ=some c->QAa P C Q pt ks σ φ c:=by
 have hn:=hN.n
 intro k
 induction k with
 | zero=>intro pt ks σ φ c e;cases e;exact fun hφ=>⟨hφ,id⟩
 | succ k ih=>
  intro pt ks σ φ c e
  unfold plain at e
  split at e
  ·rename_i h;cases h
  ·rename_i k' ops o l _ _ _ h
   cases h
   split at e
   ·rename_i hw
    split at e
    ·rename_i hs
     exact fun hφ=>let ⟨a,b⟩:=ih e hφ;let ⟨a',b'⟩:=QtQ ok hN hs a;⟨a',fun k=>AL.want hw b' (b k)⟩
    cases e
   ·rename_i hw
    split at e
    ·rename_i d hd
     replace e:=Qaf e;obtain⟨e1,e⟩:=e
     rw [<-hn]at e1
     exact fun hφ=>let ⟨a,b⟩:=ih e hφ;⟨a,fun k=>AL.pass hw hd e1 (b k)⟩
    rename_i hd
    exact fun hφ=>let ⟨a,b⟩:=ih e hφ;⟨a,fun k=>AL.pass0 hw hd (b k)⟩
   cases e
  rename_i h _
  cases h
  split at e
  ·rename_i hc
   exact fun hφ=>let ⟨a,b⟩:=ih e hφ;⟨a,fun k=>QA3 hc (b k)⟩
  cases e
theorem QB6 (ok:QdJ P T)(hN:Qdb P C n):∀(ds:List Dir) {pt:Pt} {ks:List Fr} {σ:St} {φ:Prop} {c:Cfg},go P C T n ds pt ks σ φ=some c->QAa P C Q pt ks σ φ c:=by
 have hn:=hN.n
 intro ds
 induction ds with
 | nil=>intro pt ks σ φ c e;cases e;exact fun hφ=>⟨hφ,id⟩
 | cons d ds ih=>
  intro pt ks σ φ c e
  unfold go at e
  split at e
  ·rename_i h;cases h
  ·rename_i h
   cases h
   split at e
   ·rename_i hp
    exact fun hφ=>let ⟨a,b⟩:=ih e hφ;let ⟨a',b'⟩:=QzB ok hN _ hp a;⟨a',fun k=>b' (b k)⟩
   cases e
  rename_i h
  cases h
  split at e
  ·rename_i hp
   exact fun hφ=>let ⟨a,b⟩:=ih e hφ;let ⟨a',b'⟩:=QAf ok hN hp a;⟨a',fun k=>b' (b k)⟩
  cases e
theorem AK.go (ok:QdJ P T)(hN:Qdb P C n)(ds:List Dir){pt pt':Pt}{ks ks':List Fr}{σ σ':St}{φ:Prop}(e:Vm.go P C T n ds pt ks σ True=some ⟨pt',ks',σ',φ⟩)(hφ:φ)(k:AK P C Q pt' ks' σ'):AK P C Q pt ks σ:=
 (QB6 ok hN ds e hφ).2 k
end
end Go.Vm
namespace Go.Vm
open Go Go.RowKit
theorem QJ {α:Type}{l:List α}{f:α->List V}{j:Int}{x:α}(h:idx l j=some x):0<=j/\(l.map f)[j.toNat]? = some (f x):=⟨(Qcq h).1,Qcb (Qcq h).2⟩
theorem QdK {α:Type}{l:List α}{j:Int}{x:α}{n:Nat}(h:idx l j=some x)(hn:l.length=n):0<=j/\j<(n:Int):=by subst hn;exact⟨(Qcq h).1,QDQ h⟩
theorem QtS {a b:Bool}(h:(a&&b)=true):a=true:=(QB _ _▸h).1
theorem QnC {a b:Bool}(h:(a&&b)=true):b=true:=(QB _ _▸h).2
theorem Qpc {a b c:Bool}(h:(a&&b&&c)=true):a=true:=QtS (QtS h)
theorem Qpd {a b c:Bool}(h:(a&&b&&c)=true):b=true:=QnC (QtS h)
theorem Qrt {a b c:Bool}(h:(a&&b&&c)=true):c=true:=QnC h
theorem Bnd.none_ {σ:St}{n m:Nat}(h:n=m):Bnd σ n .none m:=h▸Bnd.no
theorem QDk {α:Type}{l:List α}{h d:Nat}(hl:h<=l.length):V.own d h=V.own d (l.take h).length:=by rw [QdI,Nat.min_eq_left hl]
theorem Qcw {α β:Type}{us:List α}{y:List β}{n:Nat}(h:decide (n+y.length<=4294967296)=true)(e:us.length=y.length):decide (n+us.length<=4294967296)=true:=by rw [e];exact h
theorem Qdc {α β:Type}{us:List α}{l y:List β}(e:us.length=y.length):l.length+us.length=(l++y).length:=by rw [e];simp
theorem QeC {rs:List (List V)}{n:Nat}(h:rs.length=n):n<=rs.length/\rs.take n=rs:=by subst h;exact⟨Qb2 _,Qi2⟩
def ltI (a b:Int):Bool:=decide (a<b)
def ltS (a b:ByteArray):Bool:=decide (a.data.toList.map UInt8.toNat<b.data.toList.map UInt8.toNat)
section
variable {P:Program}{C:Ctx}{T:Tab}{Q:Exit->St->Prop}{n:Nat}{ops:Array Oper}{base:St}
theorem QbO.denil {o:Oper}{σ:St}{d:Nat}{v:V}{ob:Option Ob}{ms:List (Option Nat)}(h:QbO P C ops o σ (σ.addF ⟨d,v,ob⟩)):QbO P C ops o σ (σ.addF ⟨d,v.denil ms,ob⟩):=by
 intro a w hR K Q hK
 refine h a w hR K Q fun a' w' ⟨φ,hr⟩=>hK a' w' ⟨φ,?_⟩
 cases ob with
 | none=>exact RR.putDenil (σ:=σ) hr
 | some ob=>exact RR.putDenil (σ:=σ.set d ob) hr
theorem Qi3.app {fr:List (Nat×V)}:∀{l m:List (Nat×V)},Qi3 fr l->Qi3 fr m->Qi3 fr (l++m):=by
 intro l
 induction l with
 | nil=>intro m _ h;exact h
 | cons p l ih=>intro m h h';exact⟨h.1,ih h.2 h'⟩
theorem Qg9.app {hp:List (Nat×Ob)}:∀{l m:List (Nat×Ob)},Qg9 hp l->Qg9 hp m->Qg9 hp (l++m):=by
 intro l
 induction l with
 | nil=>intro m _ h;exact h
 | cons p l ih=>intro m h h';exact⟨h.1,ih h.2 h'⟩
theorem Qai.walk {β:Nat}{f:FuncId}{fn:Func}{c:Code}{args:List V}{hs:List (Nat×Ob)}{post:V->List (Nat×Ob)->Prop}(n:Nat)(hf:P.funcs[f]? = some fn)(hb:fn.body=some c)(hn:fn.ntmps=n)
  (hle:(Nat.ble args.length n&&Nat.ble n 616)=true) (h:∀C:Ctx,Qdb P C n->β<=C.w0.heap.size->AK P C (Qsj P fn.results.toList post) (.c c) [] ⟨QkR 0 args,hs⟩):Qai β P f args hs post:=by
 rw [QB]at hle
 exact Qai.enter hf hb hn hle.1 hle.2 fun C h1 _ h2=>h C h1 h2
theorem Qai.walkR {β:Nat}{f:FuncId}{fn:Func}{c:Code}{args:List V}{hs:List (Nat×Ob)}{post:V->List (Nat×Ob)->Prop}(n:Nat)(hf:P.funcs[f]? = some fn)(hb:fn.body=some c)(hn:fn.ntmps=n)
  (hle:(Nat.ble args.length n&&Nat.ble n 616)=true) (h:∀C:Ctx,Qdb P C n->C.rnd=none->β<=C.w0.heap.size->AK P C (Qsj P fn.results.toList post) (.c c) [] ⟨QkR 0 args,hs⟩):Qai β P f args hs post:=by
 rw [QB]at hle
 exact Qai.enter hf hb hn hle.1 hle.2 h
theorem Qc.walk {f:FuncId}{fn:Func}{c:Code}{args:List V}{hs:List (Nat×Ob)}{post:V->List (Nat×Ob)->Prop}(n:Nat)(hf:P.funcs[f]? = some fn)(hb:fn.body=some c)(hn:fn.ntmps=n)
  (hle:(Nat.ble args.length n&&Nat.ble n 616)=true) (h:∀C:Ctx,Qdb P C n->AK P C (Qsj P fn.results.toList post) (.c c) [] ⟨QkR 0 args,hs⟩):Qc P f args hs post:=by
 rw [QB]at hle
 exact Qc.enter hf hb hn hle.1 hle.2 fun C h1 _=>h C h1
theorem Qc.walkR {f:FuncId}{fn:Func}{c:Code}{args:List V}{hs:List (Nat×Ob)}{post:V->List (Nat×Ob)->Prop}(n:Nat)(hf:P.funcs[f]? = some fn)(hb:fn.body=some c)(hn:fn.ntmps=n)
  (hle:(Nat.ble args.length n&&Nat.ble n 616)=true) (h:∀C:Ctx,Qdb P C n->C.rnd=none->AK P C (Qsj P fn.results.toList post) (.c c) [] ⟨QkR 0 args,hs⟩):Qc P f args hs post:=by
 rw [QB]at hle
 exact Qc.enter hf hb hn hle.1 hle.2 h
theorem gives {r:V}{outs hs:List (Nat×Ob)}(h:Qg9 hs outs):Gives r outs r hs:=⟨rfl,fun _ _ e=>h.look _ _ e⟩
end
theorem QoY {α:Type}{f:α->List V}{l:List α}{n:Nat}(h:n=l.length):n<=(l.map f).length/\(l.map f).take n=l.map f:=by
 subst h;exact⟨by simp,QgB (by simp)⟩
end Go.Vm
namespace Go.Vm
open Go Go.RowKit
section
variable {τ ρ π:Type}
def Qem (body:τ->π->Option (τ⊕ρ)):τ->List π->Option (τ⊕ρ)
 | s,[]=>some (.inl s)
 | s,p::l=>(body s p).bind fun o=>Sum.elim (fun s'=>Qem body s' l) (fun r=>some (.inr r)) o
open Classical in
noncomputable def Qmj (body:τ->π->Option (τ⊕ρ))(s:τ):List π->Option (τ⊕ρ)
 | []=>some (.inl s)
 | [p]=>Qem body s [p]
 | l=>if ∀l':List π,l'.Perm l->Qem body s l'=Qem body s l then Qem body s l else none
theorem Qmk {body:τ->π->Option (τ⊕ρ)}{s:τ}{l:List π}{o:τ⊕ρ}:Qmj body s l=some o↔(∀l':List π,l'.Perm l->Qem body s l'=Qem body s l)/\Qem body s l=some o:=by
 unfold Qmj
 split
 ·exact⟨fun h=>⟨fun l' hl=>by rw [hl.eq_nil],h⟩,fun h=>h.2⟩
 ·exact⟨fun h=>⟨fun l' hl=>by rw [List.perm_singleton.1 hl],h⟩,fun h=>h.2⟩
 split
 ·rename_i h;exact Iff.intro (fun e=>⟨h,e⟩) (fun e=>e.2)
 rename_i h;exact Iff.intro (fun e=>(by cases e)) (fun e=>absurd e.1 h)
theorem Qrb {body:τ->π->Option (τ⊕ρ)}:∀{l m:List π} {s:τ},Qem body s (l++m)=(Qem body s l).bind fun o=>Sum.elim (fun s'=>Qem body s' m) (fun r=>some (.inr r)) o:=by
 intro l
 induction l with
 | nil=>intro m s;rfl
 | cons p l ih=>
  intro m s
  simp only [Qr7,Qem]
  cases body s p with
  | none=>rfl
  | some o=>
   cases o with
   | inl s'=>exact ih
   | inr r=>rfl
end
def QaQ {π:Type}(L:List (Nat×π))(seen:Array Nat):List (Nat×π):=L.filter fun q=>!seen.contains q.1
theorem Qss {π:Type}{L:List (Nat×π)}(hn:(L.map (·.1)).Nodup){seen:Array Nat}{q:Nat×π}(hq:q∈QaQ L seen):(QaQ L seen).Perm (q::QaQ L (seen.push q.1)):=by
 have key:∀(l:List (Nat×π)),(l.map (·.1)).Nodup->∀p:Nat×π->Bool,q∈l->p q=true->(l.filter p).Perm (q::l.filter fun e=>p e&&!(e.1==q.1)):=by
  intro l
  induction l with
  | nil=>intro _ p h;simp at h
  | cons y l ih=>
   intro hn p hx hp
   rw [Qgc,Qlp]at hn
   rcases QaK.1 hx with rfl | hx
   ·have h1:l.filter (fun e=>p e&&!(e.1==q.1))=l.filter p:=by
     apply List.filter_congr
     intro e he
     have:e.1≠q.1:=fun h=>hn.1 (by rw [<-h];exact List.mem_map_of_mem (f:=fun q:Nat×π=>q.1) he)
     simp [this]
    simp [Qlk,hp,h1]
   have hne:y.1≠q.1:=fun h=>hn.1 (by rw [h];exact List.mem_map_of_mem (f:=fun q:Nat×π=>q.1) hx)
   have h2:=ih hn.2 p hx hp
   by_cases hy:p y=true
   ·have e1:(y::l).filter p=y::l.filter p:=by simp [Qlk,hy]
    have e2:((y::l).filter fun e=>p e&&!(e.1==q.1))=y::l.filter fun e=>p e&&!(e.1==q.1):=by simp [Qlk,hy,hne]
    rw [e1,e2]
    exact(List.Perm.cons y h2).trans (List.Perm.swap _ _ _)
   have e1:(y::l).filter p=l.filter p:=by simp [Qlk,hy]
   have e2:((y::l).filter fun e=>p e&&!(e.1==q.1))=l.filter fun e=>p e&&!(e.1==q.1):=by simp [Qlk,hy]
   rw [e1,e2];exact h2
 have e2:QaQ L (seen.push q.1)=L.filter fun e=>(!seen.contains e.1)&&!(e.1==q.1):=by
  unfold QaQ
  apply List.filter_congr
  intro e _
  rw [Qr6]
  simp [Array.mem_push]
 rw [e2]
 unfold QaQ at hq ⊢
 rw [Qnj]at hq
 exact key L hn _ hq.1 hq.2
theorem QAg {α:Type}:∀{l m:List α},l.Nodup->(∀x∈l,x∈m)->m.length<=l.length->l.Perm m:=by
 classical
 intro l
 induction l with
 | nil=>intro m _ _ h;have:m=[]:=Qmb.1 (Nat.le_zero.1 h);subst this;exact .nil
 | cons x l ih=>
  intro m hn hs hl
  rw [Qlp]at hn
  have hx:=hs x Qbz
  have hp:=List.perm_cons_erase hx
  refine(List.Perm.cons x (ih hn.2 (fun y hy=>?_) ?_)).trans hp.symm
  ·have hne:y≠x:=fun e=>hn.1 (e▸hy)
   exact(List.mem_erase_of_ne hne).2 (hs y (Qb1 _ hy))
  have:=hp.length_eq
  simp at this hl
  omega
section
variable {P:Program}{C:Ctx}{Q:Exit->St->Prop}{σ σ':St}{ks:List Fr}{o:Oper}
theorem AK.weakenE {ι:Type _}{f:ι->St}{pt:Pt}(h:∀a w,R C σ a w->∃i,R C (f i) a w)(k:∀i,AK P C Q pt ks (f i)):AK P C Q pt ks σ:=by
 cases pt with
 | c c=>exact fun a w hR=>let ⟨i,hi⟩:=h a w hR;k i a w hi
 | o ops l=>exact fun a w hR=>let ⟨i,hi⟩:=h a w hR;k i a w hi
 | x e=>exact fun a w hR=>let ⟨i,hi⟩:=h a w hR;k i a w hi
def QkT {κ α:Type}(e:κ->V)(f:α->V)(L:List (Nat×(κ×α))):List (Nat×(V×V)):=L.map fun q=>(q.1,(e q.2.1,f q.2.2))
theorem AK.openMap {κ α:Type}[DecidableEq κ]{K:TypeId}{e:κ->V}{val:κ->Value}{f:α->V}{lt:List (κ×α)}{b:Nat}{pt:Pt}(hk:QgD P K e val)(hb:look σ.hp b=some (.map (QW e f lt)))
  (h:∀bm clock (L:List (Nat×(κ×α))),(L.map (·.1)).Nodup->(L.map Prod.snd).Perm lt->AK P C Q pt ks (σ.set b (.mapX bm clock (QkT e f L) (QW e f lt)))):AK P C Q pt ks σ:=by
 have key:∀a w,R C σ a w->∃i:{ i:Nat×Nat×List (Nat×(κ×α)) // (i.2.2.map (·.1)).Nodup/\(i.2.2.map Prod.snd).Perm lt },R C (σ.set b (.mapX i.1.1 i.1.2.1 (QkT e f i.1.2.2) (QW e f lt))) a w:=by
  intro a w ⟨φ,hr⟩
  rcases hr.heap b _ hb with⟨B,hB,hrep⟩|⟨_,h2⟩
  ·obtain⟨es,clock,h1,h2,h3,h4,h5,h6⟩:=hrep
   have hL:∀l:List MapEntry,(∀x∈l,x∈es.toList)->∃L:List (MapEntry×(κ×α)),L.map Prod.fst=l/\∀q∈L,q.2∈lt/\Dat (Imm C φ w) w q.1.key (e q.2.1)/\Dat (Imm C φ w) w q.1.val (f q.2.2):=by
    intro l
    induction l with
    | nil=>intro _;exact⟨[],rfl,fun q hq=>by simp at hq⟩
    | cons x l ih=>
     intro hx
     obtain⟨L,e1,e2⟩:=ih fun y hy=>hx y (Qb1 _ hy)
     obtain⟨p,hp,a1,a2⟩:=h5 x (hx x Qbz)
     obtain⟨q,hq,rfl⟩:=QaE.1 hp
     exact⟨(x,q)::L,by rw [Qgc,e1],fun y hy=>by
      rcases QaK.1 hy with rfl | hy
      ·exact⟨hq,a1,a2⟩
      exact e2 y hy⟩
   obtain⟨L,e1,e2⟩:=hL es.toList fun _ h=>h
   have hn:=(QoM hk.einj).1 h3
   have hborn:(L.map (·.1.born)).Nodup:=by
    have:L.map (·.1.born)=es.toList.map (·.born):=by rw [<-e1,Qmc];rfl
    rw [this];exact h2.2.1
   have hkeys:(L.map fun q=>q.2.1).Nodup:=by
    have h7:(L.map fun q=>q.1.key).Nodup:=by
     have:(L.map fun q=>q.1.key)=es.toList.map (·.key):=by rw [<-e1,Qmc];rfl
     rw [this];exact h2.2.2
    have h8:(L.map fun q=>q.1.key)=(L.map fun q=>q.2.1).map val:=by
     rw [Qmc]
     apply List.map_congr_left
     intro q hq
     exact hk.inv _ _ _ _ (e2 q hq).2.1
    rw [h8]at h7
    exact(Qqn.1 h7).imp fun hab e'=>hab (by rw [e'])
   have hperm:(L.map Prod.snd).Perm lt:=by
    have hnd:(L.map Prod.snd).Nodup:=by
     have:(L.map fun q=>q.2.1)=(L.map Prod.snd).map Prod.fst:=by rw [Qmc];rfl
     rw [this]at hkeys
     exact(Qqn.1 hkeys).imp fun hab e'=>hab (by rw [e'])
    have hsub:∀q∈L.map Prod.snd,q∈lt:=fun q hq=>by
     obtain⟨y,hy,rfl⟩:=QaE.1 hq
     exact(e2 y hy).1
    have hlen:lt.length<=(L.map Prod.snd).length:=by
     have:(L.map Prod.fst).length=es.toList.length:=by rw [e1]
     simp [QW]at h4 this ⊢
     omega
    have hltnd:lt.Nodup:=(Qqn.1 hn).imp fun hab e'=>hab (by rw [e'])
    exact QAg hnd hsub hlen
   have hes:es=(L.map Prod.fst).toArray:=by rw [e1]
   have hfst:(L.map fun q=>(q.1,(e q.2.1,f q.2.2))).map Prod.fst=L.map Prod.fst:=by simp
   refine⟨⟨(B.b,clock,L.map fun q=>(q.1.born,q.2)),by show((L.map _).map _).Nodup;rw [Qmc];exact hborn,by show((L.map _).map _).Perm _;rw [Qmc];exact hperm⟩,φ,?_⟩
   refine hr.say' hb (fun B' hB' _=>?_) (fun e'=>e'.elim)
   rw [hB]at hB';cases hB'
   refine⟨rfl,L.map fun q=>(q.1,(e q.2.1,f q.2.2)),by simp [QkT],by rw [h1,hfst,hes],by rw [hfst,<-hes];exact h2,h3,?_,fun q hq=>?_⟩
   ·have:(L.map fun q=>(q.1,(e q.2.1,f q.2.2))).map Prod.snd=QW e f (L.map Prod.snd):=by simp [QW]
    rw [this];exact hperm.map _
   obtain⟨q',hq',rfl⟩:=QaE.1 hq
   exact(e2 q' hq').2
  exact h2.elim
 exact AK.weakenE key fun i=>h _ _ _ i.2.1 i.2.2
theorem R.closeMap {b bm clock:Nat}{L:List (Nat×(V×V))}{l:List (V×V)}(hb:look σ.hp b=some (.mapX bm clock L l)){a:Act}{w:World}(h:R C σ a w):R C (σ.set b (.map l)) a w:=by
 obtain⟨φ,hr⟩:=h
 refine⟨φ,hr.say' hb (fun B hB hrep=>?_) (fun e'=>e'.elim)⟩
 obtain⟨h1,M,rfl,h2,h3,h4,h5,h6⟩:=hrep
 refine⟨(M.map Prod.fst).toArray,clock,h2,h3,h4,by have:=h5.length_eq;simpa using this,fun x hx=>?_,fun p hp=>?_⟩
 ·obtain⟨q,hq,rfl⟩:=QaE.1 (by simpa using hx:x∈M.map Prod.fst)
  exact⟨q.2,h5.mem_iff.1 (List.mem_map_of_mem hq),(h6 q hq).1,(h6 q hq).2⟩
 obtain⟨q,hq,rfl⟩:=QaE.1 (h5.mem_iff.2 hp)
 exact⟨q.1,by simpa using (⟨q.2.1,q.2.2,hq⟩:∃a b,(q.1,a,b)∈M),(h6 q hq).1,(h6 q hq).2⟩
theorem AK.closeMap {b bm clock:Nat}{L:List (Nat×(V×V))}{l:List (V×V)}{pt:Pt}(hb:look σ.hp b=some (.mapX bm clock L l))(k:AK P C Q pt ks (σ.set b (.map l))):AK P C Q pt ks σ:=AK.weaken (fun _ _ h=>R.closeMap hb h) k
theorem Stp.range {T d b bm clock K E:Nat}{x:Operand}{L:List (Nat×(V×V))}{l:List (V×V)}(ho:o.op=.range T x)(hd:o.dst=some d)(hn:Nat.ble (d+1) C.n=true)(hx:σ.opd x=some (.map b))(hb:look σ.hp b=some (.mapX bm clock L l))
  (hT:Qso P T=some (K,E)) (hf:look σ.hp d=none):Stp P C o σ ((σ.set d (.itr bm clock #[] none)).put d (.loc d 0 0)):=by
 refine Stp.val fun φ a w hr=>?_
 obtain⟨B,hB,hev⟩:=(hr.opd hx).map_inv
 obtain⟨rfl,M,rfl,h2,_⟩:=hr.block hB hb
 refine⟨.pointer (some ⟨w.heap.size,0,none⟩),w.alloc (.mapIter (some B.b) clock #[] clock),ext φ d ⟨w.heap.size,1,0,[],0⟩,?_,?_⟩
 ·simp only [execOp,ho,hev,Sem.run_bind,run_range_map w T K E B.b _ clock (Qo9 hT) h2,Result.andThen_ok,Sem.run_pure]
 rw [hd]
 refine(hr.alloc (cap:=1) (z:=0) hf (C.slot hn) (ob:=.itr B.b clock #[] none) (obj:=.mapIter (some B.b) clock #[] clock) ⟨heap_alloc_new w _,rfl,fun x h=>by cases h⟩).put (Qaj hn) ?_
 exact .loc d 0 0 ⟨w.heap.size,1,0,[],0⟩ (Q8 _ _ _)
theorem Stp.entry {d b m bm clock:Nat}{x:Operand}{L:List (Nat×(V×V))}{l:List (V×V)}{seen:Array Nat}{q:Nat×(V×V)}(ho:o.op=.entry x)(hd:o.dst=some d)(hn:Nat.ble (d+1) C.n=true)(hx:σ.opd x=some (.loc b 0 0))
  (hb:look σ.hp b=some (.itr bm clock seen (some q.1))) (hm:look σ.hp m=some (.mapX bm clock L l)) (hq:q∈L):Stp P C o σ (σ.put d (.tup [q.2.1,q.2.2])):=by
 refine Stp.same hd hn fun φ a w hr=>?_
 obtain⟨B,hB,hev⟩:=(hr.opd hx).loc_inv
 obtain⟨h1,h0,h2⟩:=hr.block hB hb
 obtain⟨s0,rfl⟩:=h2 _ rfl
 rcases hr.heap m _ hm with⟨M,hM,g1,N,rfl,g2,g3,g4,g5,g6⟩|⟨_,e'⟩
 ·obtain⟨q,hn,rfl⟩:=QaE.1 hq
  refine⟨.tuple #[q.1.key,q.1.val],?_,.tup _ _ rfl fun j x v hx hv=>?_⟩
  ·simp only [Qme,Qlq,h0]at hev
   subst g1
   have he:=run_entry_at (P:=P) w B.b M.b clock s0 _ clock q.1 h1 g2 (by simpa using (⟨q.2.1,q.2.2,hn⟩:∃a b,(q.1,a,b)∈N)) g3.2.1
   simp only [execOp,ho,hev,Sem.run_bind,he,Result.andThen_ok,Sem.run_pure]
  cases j with
  | zero=>simp at hx hv;subst hx;subst hv;exact .dat (g6 q hn).1
  | succ j=>
   cases j with
   | zero=>simp at hx hv;subst hx;subst hv;exact .dat (g6 q hn).2
   | succ j=>simp at hx
 exact e'.elim
theorem Qvs {π:Type}{N:List (MapEntry×π)}{seen:Array Nat}:(leftOf (N.map Prod.fst).toArray seen).toList=(N.filter fun q=>!seen.contains q.1.born).map Prod.fst:=by
 simp only [leftOf,Array.toList_filter,List.filter_map];rfl
theorem QwF {π:Type}{N:List (MapEntry×π)}{seen:Array Nat}:QaQ (N.map fun q=>(q.1.born,q.2)) seen=(N.filter fun q=>!seen.contains q.1.born).map fun q=>(q.1.born,q.2):=by
 simp only [QaQ,List.filter_map];rfl
theorem AK.next {d b m bm clock:Nat}{x:Operand}{ops:Array Oper}{rest:List Oper}{L:List (Nat×(V×V))}{l:List (V×V)}{seen:Array Nat}{cur:Option Nat}(hg:o.guard=none)(ho:o.op=.next x false)(hd:o.dst=some d)(hn:Nat.ble (d+1) C.n=true)
  (hx:σ.opd x=some (.loc b 0 0)) (hb:look σ.hp b=some (.itr bm clock seen cur)) (hm:look σ.hp m=some (.mapX bm clock L l)) (hbm:Nat.beq b m=false)
  (hdone:QaQ L seen=[]->AK P C Q (.o ops rest) ks (σ.put d (.tup [.b false])))
  (hpick:∀q∈QaQ L seen,AK P C Q (.o ops rest) ks ((σ.set b (.itr bm clock (seen.push q.1) (some q.1))).put d (.tup [.b true,.J,.J]))):AK P C Q (.o ops (o::rest)) ks σ:=by
 intro a w ⟨φ,hr⟩
 simp only [wpListIn,Region.wanted,hg,if_true]
 obtain⟨B,hB,hev⟩:=(hr.opd hx).loc_inv
 obtain⟨h1,h0,h2⟩:=hr.block hB hb
 simp only [Qme,Qlq,h0]at hev
 rcases hr.heap m _ hm with⟨M,hM,g1,N,rfl,g2,g3,g4,g5,g6⟩|⟨_,e'⟩
 ·subst g1
  refine⟨fun _ _=>trivial,?_⟩
  rw [Oper.semAt_eq _ _ _ (by rw [ho];intro c hc;cases hc)]
  have hold:∀y∈(N.map Prod.fst).toArray.toList,y.born<clock:=g3.1
  rcases run_next_at (P:=P) w o.type B.b M.b clock clock seen _ clock h1 g2 hold (Qb2 _)with⟨k1,k2⟩|⟨e,k1,w1,k2,k3⟩
  ·simp only [execOp,ho,hev,Sem.run_bind,k2,Result.andThen_ok,Sem.run_pure]
   rw [Oper.uponIn_value]
   refine hdone ?_ _ _ ⟨φ,?_⟩
   ·have h3:(leftOf (N.map Prod.fst).toArray seen).toList.length=0:=by simpa using k1
    rw [Qvs]at h3
    exact Qmb.1 (by simpa [QwF] using h3)
   rw [hd]
   refine hr.put (Qaj hn) (.tup _ _ rfl fun j x v hx hv=>?_)
   cases j with
   | zero=>simp at hx hv;subst hx;subst hv;exact .dat (.b _)
   | succ j=>simp at hx
  simp only [execOp,ho,hev,Sem.run_bind,k3,Result.andThen_ok,Sem.run_pure]
  rw [Oper.uponIn_value]
  rw [Qvs]at k1
  obtain⟨q,hq,rfl⟩:=QaE.1 k1
  refine hpick (q.1.born,q.2) (by rw [QwF];exact QaE.2 ⟨q,hq,rfl⟩) _ _ ?_
  have hr1:RR C φ σ a w1:=by
   rcases k2 with rfl | rfl
   ·exact hr
   exact hr.step rfl rfl rfl (Qb2 _) (fun _ _=>rfl)
  have hheap:w1.heap=w.heap:=by rcases k2 with rfl | rfl<;>rfl
  have hlt:=(hr1.lt b B B.b hB B.self).1
  have h4:RR C φ (σ.set b (.itr M.b clock (seen.push q.1.born) (some q.1.born))) a (Go.ChangeMaps.setBlock w1 B.b (.mapIter (some M.b) clock (seen.push q.1.born) clock)):=by
   refine hr1.write hB (by rfl) (by rfl) (by rfl) ?_ ?_ ?_
   ·simp [Go.ChangeMaps.setBlock]
   ·intro k hk
    simp only [Go.ChangeMaps.setBlock]
    exact QiO _ (fun e=>hk e)
   refine⟨?_,h0,fun x e=>?_⟩
   ·simp [Go.ChangeMaps.setBlock,Qq4,hlt]
   cases e;exact⟨seen,rfl⟩
  refine⟨φ,?_⟩
  rw [hd]
  refine h4.put (Qaj hn) (.tup _ _ rfl fun j x v hx hv=>?_)
  cases j with
  | zero=>simp at hx hv;subst hx;subst hv;exact .dat (.b _)
  | succ j=>
   cases j with
   | zero=>simp at hx hv;subst hv;exact .dat (.J _)
   | succ j=>
    cases j with
    | zero=>simp at hx hv;subst hv;exact .dat (.J _)
    | succ j=>simp at hx
 exact e'.elim
theorem Qyb {κ α:Type}{e:κ->V}{f:α->V}{L:List (Nat×(κ×α))}{seen:Array Nat}:QaQ (QkT e f L) seen=QkT e f (QaQ L seen):=by
 simp only [QaQ,QkT,List.filter_map];rfl
theorem AK.nextT {d b m bm clock:Nat}{x:Operand}{ops:Array Oper}{rest:List Oper}{κ α:Type}{e:κ->V}{f:α->V}{L:List (Nat×(κ×α))}{l:List (V×V)}{seen:Array Nat}{cur:Option Nat}(hg:o.guard=none)(ho:o.op=.next x false)(hd:o.dst=some d)
  (hn:Nat.ble (d+1) C.n=true) (hx:σ.opd x=some (.loc b 0 0)) (hb:look σ.hp b=some (.itr bm clock seen cur)) (hm:look σ.hp m=some (.mapX bm clock (QkT e f L) l)) (hbm:Nat.beq b m=false)
  (hdone:QaQ L seen=[]->AK P C Q (.o ops rest) ks (σ.put d (.tup [.b false])))
  (hpick:∀x k v,(x,(k,v))∈QaQ L seen->AK P C Q (.o ops rest) ks ((σ.set b (.itr bm clock (seen.push x) (some x))).put d (.tup [.b true,.J,.J]))):AK P C Q (.o ops (o::rest)) ks σ:=by
 refine AK.next hg ho hd hn hx hb hm hbm (fun h=>hdone ?_) (fun q hq=>?_)
 ·rw [Qyb]at h;simpa [QkT] using h
 rw [Qyb]at hq
 obtain⟨q',hq',rfl⟩:=QaE.1 hq
 exact hpick q'.1 q'.2.1 q'.2.2 hq'
theorem Stp.entryT {d b m bm clock:Nat}{x:Operand}{κ α:Type}{e:κ->V}{f:α->V}{L:List (Nat×(κ×α))}{l:List (V×V)}{seen:Array Nat}{y:Nat}{k:κ}{v:α}(ho:o.op=.entry x)(hd:o.dst=some d)(hn:Nat.ble (d+1) C.n=true)(hx:σ.opd x=some (.loc b 0 0))
  {s0:Array Nat} (hq:(y,(k,v))∈QaQ L s0) (hb:look σ.hp b=some (.itr bm clock seen (some y))) (hm:look σ.hp m=some (.mapX bm clock (QkT e f L) l)):Stp P C o σ (σ.put d (.tup [e k,f v])):=
 Stp.entry (q:=(y,(e k,f v))) ho hd hn hx hb hm (QaE.2 ⟨(y,(k,v)),(Qnj.1 hq).1,rfl⟩)
def QEt {τ ρ π:Type}(body:τ->π->Option (τ⊕ρ))(L:List (Nat×π))(E:τ->Array Nat->St->Prop)(Post:ρ->Exit->St->Prop)(PD:τ->Exit->St->Prop)(s:τ)(seen:Array Nat):Exit->St->Prop:=fun e σ'=>
 (QaQ L seen=[]/\e≠.normal/\PD s e σ')\/∃q∈QaQ L seen,(∃s',body s q.2=some (.inl s')/\e=.normal/\E s' (seen.push q.1) σ')\/(∃r,body s q.2=some (.inr r)/\e≠.normal/\Post r e σ')
theorem AK.range {τ ρ π:Type}{body:τ->π->Option (τ⊕ρ)}{c:Code}{lt:List π}{L:List (Nat×π)}(E:τ->Array Nat->St->Prop)(Post:ρ->Exit->St->Prop)(PD:τ->Exit->St->Prop){s0:τ}{r:τ⊕ρ}(hn:(L.map (·.1)).Nodup)(hp:(L.map Prod.snd).Perm lt)
  (hr:Qmj body s0 lt=some r) (h0:E s0 #[] σ)
  (round:∀s seen σ,E s seen σ->(∀q∈QaQ L seen,∃o,body s q.2=some o)->AK P C (QEt body L E Post PD s seen) (.c c) [] σ)
  (hQ:∀e σ',(Sum.elim (fun s=>PD s e σ') (fun q=>Post q e σ') r)->AK P C Q (.x e) ks σ'):AK P C Q (.c (.loop c)) ks σ:=by
 obtain⟨hperm,hrun⟩:=Qmk.1 hr
 have key:∀(k:Nat) (s:τ) (seen:Array Nat),(QaQ L seen).length=k->(∃dn,(dn++(QaQ L seen).map Prod.snd).Perm lt/\Qem body s0 dn=some (.inl s))->∀σ a w,E s seen σ->R C σ a w->
   Code.roundsIn C.F 0 P c (up C fun e σ'=>Sum.elim (fun s=>PD s e σ') (fun q=>Post q e σ') r) (k+1) a w:=by
  intro k
  induction k with
  | zero=>
   rintro s seen hk ⟨dn,hd1,hd2⟩ σ a w hE hR
   have hnil:=Qmb.1 hk
   rw [roundsIn_succ]
   refine wpIn_mono (round s seen σ hE (fun q hq=>by rw [hnil]at hq;cases hq) a w hR) ?_
   rintro e a' w' ⟨σ',hq,hR'⟩
   rcases hq with⟨_,h2,h3⟩|⟨q,hq,_⟩
   ·rw [hnil]at hd1
    have:Qem body s0 dn=some r:=by rw [<-hrun];exact hperm dn (by simpa using hd1)
    rw [this]at hd2;cases hd2
    cases e<;>first | exact absurd rfl h2 | exact⟨σ',h3,hR'⟩
   rw [hnil]at hq;cases hq
  | succ k ih=>
   rintro s seen hk ⟨dn,hd1,hd2⟩ σ a w hE hR
   rw [roundsIn_succ]
   have hall:∀q∈QaQ L seen,∃o,body s q.2=some o/\∃rest,(dn++q.2::rest).Perm lt/\rest=(QaQ L (seen.push q.1)).map Prod.snd:=fun q hq=>by
    have h1:=(Qss hn hq).map Prod.snd
    have h2:(dn++q.2::(QaQ L (seen.push q.1)).map Prod.snd).Perm lt:=((List.Perm.append_left dn h1).symm).trans hd1
    have h3:Qem body s0 (dn++q.2::(QaQ L (seen.push q.1)).map Prod.snd)=some r:=by rw [<-hrun];exact hperm _ h2
    rw [Qrb,hd2]at h3
    simp only [Ql,Sum.elim_inl,Qem]at h3
    cases hb:body s q.2 with
    | none=>rw [hb]at h3;cases h3
    | some o=>exact⟨o,rfl,_,h2,rfl⟩
   refine wpIn_mono (round s seen σ hE (fun q hq=>let ⟨o,h,_⟩:=hall q hq;⟨o,h⟩) a w hR) ?_
   rintro e a' w' ⟨σ',hq,hR'⟩
   rcases hq with⟨h1,_,_⟩|⟨q,hq,⟨s',h1,rfl,h3⟩|⟨r',h1,h2,h3⟩⟩
   ·rw [h1]at hk;cases hk
   ·obtain⟨_,_,rest,h5,h6⟩:=hall q hq
    refine ih s' (seen.push q.1) ?_ ⟨dn++[q.2],?_,?_⟩ σ' a' w' h3 hR'
    ·have:=(Qss hn hq).length_eq;simp at this;omega
    ·rw [Qgb,List.singleton_append,<-h6];exact h5
    rw [Qrb,hd2];simp only [Ql,Sum.elim_inl,Qem,h1]
   obtain⟨_,_,rest,h5,h6⟩:=hall q hq
   have h7:Qem body s0 (dn++q.2::rest)=some r:=by rw [<-hrun];exact hperm _ h5
   rw [Qrb,hd2]at h7
   simp only [Ql,Sum.elim_inl,Qem,h1,Sum.elim_inr]at h7
   cases h7
   cases e<;>first | exact absurd rfl h2 | exact⟨σ',h3,hR'⟩
 intro a w hR
 have hL:QaQ L #[]=L:=by simp [QaQ]
 refine wpIn_mono (wpIn_loop_rounds _ (key _ s0 #[] rfl ⟨[],by rw [hL];simpa using hp,rfl⟩ σ a w h0 hR)) ?_
 rintro e a' w' ⟨σ',h1,h2⟩
 exact hQ e σ' h1 a' w' h2
end
end Go.Vm
