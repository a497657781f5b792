/- A part of the proof; what it holds is told at each theorem. -/
import Derived.Test.YtpijolohkdchcaaGreatDoorXVmN
set_option linter.unusedVariables false
set_option linter.unusedSimpArgs false
set_option linter.unusedSectionVars false
set_option linter.deprecated false
namespace Go.Vm
open Go Go.RowKit
inductive Vw (hp:List (Nat×Ob)) (g sc:Bool) (bad:List Nat) (m:Nat→Nat→Prop):V→V→Prop where
 | dat (v:V):v.datA=true→(sc=true→v.scaA=true)→Vw hp g sc bad m v v
 | nil (z:Nat):Vw hp g sc bad m (.lit (.slice none 0 0)) (.sl z [])
 | see (b n z:Nat) (rs us:List (List V)):g=true→sc=false→memB bad b=false→look hp b=some (.arr z rs)→n≤rs.length→rs.take n=us→Vw hp g sc bad m (.own b n) (.sl z us)
 | own (a b n:Nat):m a b→Vw hp g sc bad m (.own a n) (.own b n)
 | loc (a b i d:Nat):m a b→Vw hp g sc bad m (.loc a i d) (.loc b i d)
 | map (a b:Nat):m a b→Vw hp g sc bad m (.map a) (.map b)
 | agg (cs us:List V):cs.length=us.length→(∀(j:Nat) c u,cs[j]? = some c→us[j]? = some u→Vw hp g sc bad m c u)→Vw hp g sc bad m (.agg cs) (.agg us)
 | tup (cs us:List V):cs.length=us.length→(∀(j:Nat) c u,cs[j]? = some c→us[j]? = some u→Vw hp g sc bad m c u)→Vw hp g sc bad m (.tup cs) (.tup us)
 | ifc (t:TypeId) (v u:V):Vw hp g sc bad m v u→Vw hp g sc bad m (.ifc t v) (.ifc t u)
 | clo (fn:Fn) (vs us cs ds:List V):vs.length=us.length→cs.length=ds.length→(∀(j:Nat) c u,vs[j]? = some c→us[j]? = some u→Vw hp g sc bad m c u)→
   (∀(j:Nat) c u,cs[j]? = some c→ds[j]? = some u→Vw hp g sc bad m c u)→Vw hp g sc bad m (.clo fn vs cs) (.clo fn us ds)
section
variable {hp:List (Nat×Ob)}{g sc:Bool}{bad:List Nat}{m:Nat→Nat→Prop}{φ ψ:Nat→Option Blk}{I J:Nat→Prop}{w w':World}
theorem Vw.sound (hm:∀a b B,m a b→φ a=some B→ψ b=some B)(hI:sc=false→∀k,I k→J k∧w'.heap[k]? = w.heap[k]?)
  (hown:∀b z rs B,g=true→memB bad b=false→look hp b=some (.arr z rs)→φ b=some B→J B.b∧w'.heap[B.b]? = w.heap[B.b]? ∧ QaC I w B z rs)
  {v u:V} (h:Vw hp g sc bad m v u):∀{x:Value},Rep φ I w x v→Rep ψ J w' x u:=by
 induction h with
 | dat v hv hs=>
  intro x hx
  cases sc with
  | true=>exact hx.scaA (hs rfl)
  | false=>exact hx.datA hv (hI rfl)
 | nil z=>intro x hx;rw [hx.lit_inv];exact .dat (.sl0 _ _ _)
 | see b n z rs us hg hsc hbad hb hle hu=>
  intro x hx
  subst hu
  rcases hx.own_inv with⟨rfl,rfl⟩|⟨B,hB,hcap,rfl⟩
  ·simp only [List.take_zero];exact .dat (.sl0 _ _ _)
  ·obtain⟨hJ,hw,rfl,hrl,hok,cs,E,h1,h2,h3⟩:=hown b z rs B hg hbad hb hB
   refine .dat (.sl B.b B.off n B.cap B.z _ (fun j=>cs.getD (B.off+j) undef) hJ (by simp;omega) hcap (fun r hr'=>hok r (List.mem_of_mem_take hr')) (fun j hj=>?_) (fun i r hi j v hj=>?_))
   ·have hle2:n*B.z≤B.cap*B.z:=Nat.mul_le_mul_right _ hcap
    have:B.off+j<cs.size:=by omega
    simp [World.cell?,hw,h1,Array.getD,this]
   ·have hi':rs[i]? = some r:=by
     rw [List.getElem?_take]at hi
     by_cases hin:i<n
     ·rwa [if_pos hin]at hi
     ·rw [if_neg hin]at hi;simp at hi
    obtain⟨y,hy,hd⟩:=h3 i r hi' j v hj
    have:cs.getD (B.off+(i*B.z+j)) undef=y:=by simp [Array.getD_eq_getD_getElem?,hy]
    rw [this]
    exact hd.mono (hI hsc)
 | own a b n hab=>
  intro x hx
  rcases hx.own_inv with⟨rfl,rfl⟩|⟨B,hB,hcap,rfl⟩
  ·exact .own0 b
  ·exact .own b n B (hm a b B hab hB) hcap
 | loc a b i d hab=>intro x hx;obtain⟨B,hB,rfl⟩:=hx.loc_inv;exact .loc b i d B (hm a b B hab hB)
 | map a b hab=>intro x hx;obtain⟨B,hB,rfl⟩:=hx.map_inv;exact .map b B (hm a b B hab hB)
 | agg cs us hl _ ih=>
  intro x hx
  obtain⟨xs,rfl,hs,hc⟩:=hx.agg_inv
  refine .agg xs us (by omega) fun j y u hy hu=>?_
  have hj:j<cs.length:=by rw [←hs];exact(Array.getElem?_eq_some_iff.1 hy).1
  exact ih j cs[j] u (List.getElem?_eq_getElem hj) hu (hc j y _ hy (List.getElem?_eq_getElem hj))
 | tup cs us hl _ ih=>
  intro x hx
  obtain⟨xs,rfl,hs,hc⟩:=hx.tup_inv
  refine .tup xs us (by omega) fun j y u hy hu=>?_
  have hj:j<cs.length:=by rw [←hs];exact(Array.getElem?_eq_some_iff.1 hy).1
  exact ih j cs[j] u (List.getElem?_eq_getElem hj) hu (hc j y _ hy (List.getElem?_eq_getElem hj))
 | ifc t v u _ ih=>intro x hx;obtain⟨y,rfl,hy⟩:=hx.ifc_inv;exact .ifc t y u (ih hy)
 | clo fn vs us cs ds h1 h2 _ _ ih1 ih2=>
  intro x hx
  obtain⟨xs,ys,rfl,e1,e2,e3,e4⟩:=hx.clo_inv
  refine .clo fn xs ys us ds (by omega) (by omega) (fun j y u hy hu=>?_) (fun j y u hy hu=>?_)
  ·have hj:j<vs.length:=by rw [←e1];exact(Array.getElem?_eq_some_iff.1 hy).1
   exact ih1 j vs[j] u (List.getElem?_eq_getElem hj) hu (e3 j y _ hy (List.getElem?_eq_getElem hj))
  ·have hj:j<cs.length:=by rw [←e2];exact(Array.getElem?_eq_some_iff.1 hy).1
   exact ih2 j cs[j] u (List.getElem?_eq_getElem hj) hu (e4 j y _ hy (List.getElem?_eq_getElem hj))
inductive ObW (hp:List (Nat×Ob)) (g sc:Bool) (bad:List Nat) (m:Nat→Nat→Prop):Ob→Ob→Prop where
 | var (cs us:List V):cs.length=us.length→(∀(j:Nat) c u,cs[j]? = some c→us[j]? = some u→Vw hp g sc bad m c u)→ObW hp g sc bad m (.var cs) (.var us)
 | arr (z:Nat) (rs:List (List V)):(sc=true→∀r∈rs,∀v∈r,v.sca=true)→ObW hp g sc bad m (.arr z rs) (.arr z rs)
 | map (l:List (V×V)):(sc=true→∀p∈l,p.1.sca=true∧p.2.sca=true)→ObW hp g sc bad m (.map l) (.map l)
 | lp (l:Nat) (K:Qga) (cs us:List V) (q:Nat):cs.length=us.length→(∀(j:Nat) c u,cs[j]? = some c→us[j]? = some u→Vw hp g sc bad m c u)→ObW hp g sc bad m (.lp l K cs q) (.lp l K us q)
 | grp (z:Nat) (l:List (V×List (List V))) (lk:Option V):sc=false→ObW hp g sc bad m (.grp z l lk) (.grp z l lk)
theorem ObW.sound (hm:∀a b B,m a b→φ a=some B→ψ b=some B)(hI:sc=false→∀k,I k→J k∧w'.heap[k]? = w.heap[k]?)
  (hown:∀b z rs B,g=true→memB bad b=false→look hp b=some (.arr z rs)→φ b=some B→J B.b∧w'.heap[B.b]? = w.heap[B.b]? ∧ QaC I w B z rs)
  {B:Blk} (hB:∀k,B.has k→w'.heap[k]? = w.heap[k]?) {ob ob':Ob} (h:ObW hp g sc bad m ob ob') (hr:Qbi φ I w B ob):Qbi ψ J w' B ob':=by
 cases h with
 | var cs us hl hv=>
  obtain⟨xs,E,h1,h2,h0,h3⟩:=hr
  refine⟨xs,E,(hB _ B.self).trans h1,by omega,h0,fun j x u hx hu=>?_⟩
  have hj:j<cs.length:=by rw [←h2];exact(Array.getElem?_eq_some_iff.1 hx).1
  exact(hv j cs[j] u (List.getElem?_eq_getElem hj) hu).sound hm hI hown (h3 j x _ hx (List.getElem?_eq_getElem hj))
 | arr z rs hs=>
  cases sc with
  | false=>exact QaC.mono (hI rfl) (hB _ B.self) hr
  | true=>
   obtain⟨h1,h2,h3,cs,E,h4,h5,h6⟩:=hr
   exact⟨h1,h2,h3,cs,E,(hB _ B.self).trans h4,h5,fun i r hi j v hj=>let ⟨x,hx,hd⟩:=h6 i r hi j v hj;⟨x,hx,hd.sca (hs rfl r (List.mem_of_getElem? hi) v (List.mem_of_getElem? hj))⟩⟩
 | map l hs=>
  cases sc with
  | false=>exact Qdy.mono (hI rfl) (hB _ B.self) hr
  | true=>
   obtain⟨es,clock,h1,h2,h3,h4,h5,h6⟩:=hr
   exact⟨es,clock,(hB _ B.self).trans h1,h2,h3,h4,fun x hx=>let ⟨p,hp,a,b⟩:=h5 x hx;⟨p,hp,a.sca (hs rfl p hp).1,b.sca (hs rfl p hp).2⟩,fun p hp=>let ⟨x,hx,a,b⟩:=h6 p hp;⟨x,hx,a.sca (hs rfl p hp).1,b.sca (hs rfl p hp).2⟩⟩
 | lp l K cs us q hl hv=>
  obtain⟨tmps,D,rfl,h1,h2,h3,h4⟩:=hr
  refine⟨tmps,D,rfl,h1,(hB _ B.self).trans h2,by omega,fun j x u hx hu=>?_⟩
  have hj:j<cs.length:=by rw [←h3];exact(Array.getElem?_eq_some_iff.1 hx).1
  exact(hv j cs[j] u (List.getElem?_eq_getElem hj) hu).sound hm hI hown (h4 j x _ hx (List.getElem?_eq_getElem hj))
 | grp z l lk hs=>exact Qdz.mono (hI hs) hB hr
end
inductive Vws (hp:List (Nat×Ob)) (g sc:Bool) (bad:List Nat) (m:Nat→Nat→Prop):List V→List V→Prop where
 | nil:Vws hp g sc bad m [] []
 | cons {v u:V} {vs us:List V}:Vw hp g sc bad m v u→Vws hp g sc bad m vs us→Vws hp g sc bad m (v::vs) (u::us)
theorem Vws.get {hp:List (Nat×Ob)}{g sc:Bool}{bad:List Nat}{m:Nat→Nat→Prop}:∀{vs us:List V},Vws hp g sc bad m vs us→
  vs.length=us.length∧∀(j:Nat) v u,vs[j]? = some v→us[j]? = some u→Vw hp g sc bad m v u:=by
 intro vs us h
 induction h with
 | nil=>simp
 | cons h1 _ ih=>
  refine⟨by simp [ih.1],fun j v u hv hu=>?_⟩
  cases j with
  | zero=>simp at hv hu;subst hv;subst hu;exact h1
  | succ j=>exact ih.2 j v u hv hu
inductive ObsW (hp:List (Nat×Ob)) (g sc:Bool) (bad:List Nat) (m:Nat→Nat→Prop) (src:List (Nat×Ob)):List (Nat×Nat)→List (Nat×Ob)→Prop where
 | nil:ObsW hp g sc bad m src [] []
 | cons {d s:Nat} {ob ob':Ob} {ms:List (Nat×Nat)} {r:List (Nat×Ob)}:look src s=some ob→ObW hp g sc bad m ob ob'→ObsW hp g sc bad m src ms r→ObsW hp g sc bad m src ((d,s)::ms) ((d,ob')::r)
section
variable {hp src:List (Nat×Ob)}{g sc:Bool}{bad:List Nat}{m:Nat→Nat→Prop}
theorem ObsW.get {ms:List (Nat×Nat)}{hs:List (Nat×Ob)}(h:ObsW hp g sc bad m src ms hs):(∀d ob',look hs d=some ob'→∃s ob,look ms d=some s∧look src s=some ob∧ObW hp g sc bad m ob ob')∧
  ∀d s,look ms d=some s→∃ob',look hs d=some ob':=by
 induction h with
 | nil=>exact⟨fun _ _ h=>(by cases h),fun _ _ h=>(by cases h)⟩
 | @cons d s ob ob' ms r h1 h2 _ ih=>
  refine⟨fun d' o h=>?_,fun d' s' h=>?_⟩
  ·by_cases e:d=d'
   ·subst e;rw [Qq]at h ⊢;cases h;exact⟨s,ob,rfl,h1,h2⟩
   ·rw [Qn _ _ e]at h ⊢;exact ih.1 d' o h
  ·by_cases e:d=d'
   ·subst e;rw [Qq]at h ⊢;exact⟨_,rfl⟩
   ·rw [Qn _ _ e]at h ⊢;exact ih.2 d' s' h
end
def snds (l:List (Nat×Nat)):List Nat:=l.map Prod.snd
def injB : List (Nat×Nat)→Bool
 | []=>true
 | (_,s)::r=>!(memB (snds r) s)&&injB r
theorem Qn7 : ∀{l:List (Nat×Nat)} {d s:Nat},look l d=some s→memB (snds l) s=true:=by
 intro l
 induction l with
 | nil=>intro d s h;cases h
 | cons p l ih=>
  intro d s h
  obtain⟨k,u⟩:=p
  by_cases e:k=d
  ·subst e;rw [Qq]at h;cases h;simp [snds,memB]
  ·rw [Qn _ _ e]at h
   have:=ih h
   simp only [snds,List.map_cons,memB,Bool.or_eq_true]
   exact .inr this
theorem Qpx : ∀{l:List (Nat×Nat)},injB l=true→∀{a b s:Nat},look l a=some s→look l b=some s→a=b:=by
 intro l
 induction l with
 | nil=>intro _ a b s h;cases h
 | cons p l ih=>
  intro hi a b s h1 h2
  obtain⟨k,u⟩:=p
  rw [injB,Bool.and_eq_true]at hi
  by_cases e1:k=a<;>by_cases e2:k=b
  ·rw [←e1,←e2]
  ·subst e1;rw [Qq]at h1;cases h1;rw [Qn _ _ e2]at h2
   rw [Qn7 h2]at hi;simp at hi
  ·subst e2;rw [Qq]at h2;cases h2;rw [Qn _ _ e1]at h1
   rw [Qn7 h1]at hi;simp at hi
  ·rw [Qn _ _ e1]at h1;rw [Qn _ _ e2]at h2;exact ih hi.2 h1 h2
theorem Qr1 : ∀{l:List (Nat×Nat)} {s:Nat},memB (snds l) s=true→∃d,(d,s)∈l:=by
 intro l
 induction l with
 | nil=>intro s h;cases h
 | cons p l ih=>
  intro s h
  simp only [snds,List.map_cons,memB,Bool.or_eq_true]at h
  rcases h with h | h
  ·exact⟨p.1,by rw [←Nat.eq_of_beq_eq_true h];exact List.mem_cons_self⟩
  ·obtain⟨d,hd⟩:=ih h;exact⟨d,List.mem_cons_of_mem _ hd⟩
def St.killL (σ:St):List Nat→St
 | []=>σ
 | b::r=>(σ.kill b).killL r
def delL (φ:Nat→Option Blk):List Nat→Nat→Option Blk
 | []=>φ
 | b::r=>delL (del φ b) r
theorem Qes : ∀{ds:List Nat} {φ:Nat→Option Blk} {k:Nat} {B:Blk},delL φ ds k=some B→memB ds k=false∧φ k=some B:=by
 intro ds
 induction ds with
 | nil=>intro φ k B h;exact⟨rfl,h⟩
 | cons b ds ih=>
  intro φ k B h
  obtain⟨h1,h2⟩:=ih h
  obtain⟨h3,h4⟩:=Qbj h2
  refine⟨?_,h4⟩
  simp only [memB,Bool.or_eq_false_iff]
  refine⟨?_,h1⟩
  cases hb:Nat.beq b k with
  | false=>rfl
  | true=>exact absurd (Nat.eq_of_beq_eq_true hb).symm h3
theorem Qna : ∀{ds:List Nat} {φ:Nat→Option Blk} {k:Nat},memB ds k=false→delL φ ds k=φ k:=by
 intro ds
 induction ds with
 | nil=>intro φ k h;rfl
 | cons b ds ih=>
  intro φ k h
  simp only [memB,Bool.or_eq_false_iff]at h
  rw [delL,ih h.2,QdA (fun e=>by subst e;simp at h)]
theorem QrA : ∀(ds:List Nat) (σ:St) (t:Nat) (v:V),look (σ.killL ds).fr t=some v→∃v',look σ.fr t=some v'∧∀φ I w x,Rep φ I w x v'→Rep (delL φ ds) I w x v:=by
 intro ds
 induction ds with
 | nil=>intro σ t v h;exact⟨v,h,fun _ _ _ _ h=>h⟩
 | cons b ds ih=>
  intro σ t v h
  obtain⟨v1,h1,h2⟩:=ih (σ.kill b) t v h
  obtain⟨v2,h3,rfl⟩:=QkK _ _ _ h1
  exact⟨v2,h3,fun φ I w x hx=>h2 _ _ _ _ (hx.kill (fun o B ho hB=>by rw [QdA ho];exact hB) fun k hk=>⟨hk,rfl⟩)⟩
theorem QnG : ∀(ds:List Nat) (σ:St) (o:Nat) (ob:Ob),look (σ.killL ds).hp o=some ob→memB ds o=false∧∃ob',look σ.hp o=some ob'∧
  (∀φ I w B,Qbi φ I w B ob'→Qbi (delL φ ds) I w B ob)∧∀z,ob'=.arr z []→ob=.arr z []:=by
 intro ds
 induction ds with
 | nil=>intro σ t v h;exact⟨rfl,v,h,fun _ _ _ _ h=>h,fun _ h=>h⟩
 | cons b ds ih=>
  intro σ t v h
  obtain⟨h0,v1,h1,h2,h2'⟩:=ih (σ.kill b) t v h
  obtain⟨hne,v2,h3,rfl⟩:=Qce _ _ _ h1
  refine⟨?_,v2,h3,fun φ I w B hB=>h2 _ _ _ _ (hB.kill (fun o B ho hB=>by rw [QdA ho];exact hB) (fun k hk=>⟨hk,rfl⟩) fun _ _=>rfl),fun z e=>h2' z (by rw [e];rfl)⟩
  simp only [memB,Bool.or_eq_false_iff]
  refine⟨?_,h0⟩
  cases hb:Nat.beq b t with
  | false=>rfl
  | true=>exact absurd (Nat.eq_of_beq_eq_true hb).symm hne
theorem Qqg : ∀(ds:List Nat) (σ:St) (o:Nat) (ob:Ob),memB ds o=false→look σ.hp o=some ob→∃ob',look (σ.killL ds).hp o=some ob':=by
 intro ds
 induction ds with
 | nil=>intro σ o ob _ h;exact⟨ob,h⟩
 | cons b ds ih=>
  intro σ o ob hm h
  simp only [memB,Bool.or_eq_false_iff]at hm
  exact ih (σ.kill b) o _ hm.2 (QeI _ _ _ (fun e=>by subst e;simp at hm) h)
def QrQ : Option Ob→Bool
 | some _=>true
 | none=>false
theorem Qrp {x:Option Ob}(h:QrQ x=true):∃ob,x=some ob:=by
 cases x with
 | none=>cases h
 | some ob=>exact⟨ob,rfl⟩
def Qn8 (x:Option Nat)(n:Nat):Bool:=match x with
 | some k=>Nat.beq k n
 | none=>false
theorem Qnb {x:Option Nat}{n:Nat}(h:Qn8 x n=true):x=some n:=by
 cases x with
 | none=>cases h
 | some k=>rw [Nat.eq_of_beq_eq_true h]
def QcR (σ:St)(M N:List (Nat×Nat))(dead:List Nat)(outs:List (Nat×Ob)):Bool:=
 injB M&&injB N&&M.all (fun p=>Nat.ble 100000 p.1&&(memB dead p.2||(Nat.ble 200000 p.1&&Qn8 (look N p.2) p.1&&QrQ (look outs p.1)))) &&
 N.all (fun p=>(memB dead p.1||memB (snds M) p.1||(look σ.hp p.1).isNone)&&(Nat.ble 100000 p.1||!(Nat.ble 100000 p.2)||M.all (fun q=>!(Nat.ble 100000 q.2)||(Nat.ble 200000 q.1&&QrQ (look outs q.1)&&Qn8 (look N q.2) q.1))) &&
  (!(Nat.ble 200000 p.1)||(Nat.ble 200000 p.2&&Qn8 (look M p.2) p.1)))
structure Names (σ:St) (M N:List (Nat×Nat)) (dead:List Nat) (outs:List (Nat×Ob)):Prop where
 injM:∀{a b s:Nat},look M a=some s→look M b=some s→a=b
 injN:∀{a b s:Nat},look N a=some s→look N b=some s→a=b
 param:∀{c a:Nat},look M c=some a→100000≤c
 keep:∀{c a:Nat},look M c=some a→memB dead a=true∨(200000≤c∧look N a=some c∧∃ob,look outs c=some ob)
 fresh:∀{a c:Nat},look N a=some c→memB dead a=true∨(∃c',look M c'=some a)∨look σ.hp a=none
 low:∀{a c:Nat},look N a=some c→a<100000→c<100000∨∀{c' a':Nat},look M c'=some a'→a'<100000∨(200000≤c'∧(∃ob,look outs c'=some ob)∧look N a'=some c')
 stay:∀{a c:Nat},look N a=some c→200000≤a→200000≤c∧look M c=some a
theorem Qd2 {a n:Nat}(h:(!(Nat.ble n a))=true):a<n:=by
 rcases Nat.lt_or_ge a n with h1 | h1
 ·exact h1
 ·rw [Nat.ble_eq_true_of_le h1]at h;cases h
theorem Qa3 : ∀{l:List (Nat×Nat)},injB l=true→∀{d s:Nat},(d,s)∈l→(l.map Prod.fst).Nodup→look l d=some s:=by
 intro l
 induction l with
 | nil=>intro _ d s h;cases h
 | cons p l ih=>
  intro hi d s h hn
  obtain⟨k,u⟩:=p
  rw [injB,Bool.and_eq_true]at hi
  rw [List.map_cons,List.nodup_cons]at hn
  rcases List.mem_cons.1 h with h | h
  ·cases h;exact Qq _ _ _
  ·have hk:k≠d:=fun e=>hn.1 (by rw [e];exact List.mem_map.2 ⟨(d,s),h,rfl⟩)
   rw [Qn _ _ hk];exact ih hi.2 h hn.2
theorem Names.of {σ:St}{M N:List (Nat×Nat)}{dead:List Nat}{outs:List (Nat×Ob)}(h:QcR σ M N dead outs=true)(hnd:(M.map Prod.fst).Nodup):Names σ M N dead outs:=by
 simp only [QcR,Bool.and_eq_true,List.all_eq_true]at h
 obtain⟨⟨⟨h1,h2⟩,h3⟩,h4⟩:=h
 have pM:∀{c a:Nat},look M c=some a→Nat.ble 100000 c=true∧(memB dead a=true∨(Nat.ble 200000 c=true∧Qn8 (look N a) c=true)∧QrQ (look outs c)=true):=fun hl=>by
  have:=h3 _ (QaH hl)
  simpa only [Bool.or_eq_true,Bool.and_eq_true] using this
 have pN:=fun {a c:Nat} (hl:look N a=some c)=>h4 _ (QaH hl)
 refine⟨Qpx h1,Qpx h2,fun hl=>Nat.le_of_ble_eq_true (pM hl).1,fun hl=>?_,fun hl=>?_,fun hl hlt=>?_,fun hl hge=>?_⟩
 ·rcases(pM hl).2 with h | ⟨⟨a1,a2⟩,a3⟩
  ·exact .inl h
  ·exact .inr ⟨Nat.le_of_ble_eq_true a1,Qnb a2,Qrp a3⟩
 ·have:=(pN hl).1.1
  simp only [Bool.or_eq_true]at this
  rcases this with(h | h) | h
  ·exact .inl h
  ·obtain⟨c',hc'⟩:=Qr1 h
   exact .inr (.inl ⟨c',Qa3 h1 hc' hnd⟩)
  ·exact .inr (.inr (by simpa using h))
 ·have:=(pN hl).1.2
  simp only [Bool.or_eq_true]at this
  rcases this with(h | h) | h
  ·exact absurd (Nat.le_of_ble_eq_true h) (by omega)
  ·exact .inl (Qd2 h)
  ·refine .inr fun {c' a'} hl'=>?_
   rw [List.all_eq_true]at h
   have:=h _ (QaH hl')
   rw [Bool.or_eq_true,Bool.and_eq_true,Bool.and_eq_true]at this
   rcases this with h | ⟨⟨h1,h2⟩,h3⟩
   ·exact .inl (Qd2 h)
   ·exact .inr ⟨Nat.le_of_ble_eq_true h1,Qrp h2,Qnb h3⟩
 ·have:=(pN hl).2
  simp only [Bool.or_eq_true,Bool.and_eq_true]at this
  rcases this with h | h
  ·exact absurd (Qd2 h) (by omega)
  ·exact⟨Nat.le_of_ble_eq_true h.1,Qnb h.2⟩
def QoX (C:Ctx)(φ:Nat→Option Blk)(w:World)(g:Bool)(bad:List Nat)(k:Nat):Prop:=Imm C φ w k∨(g=true∧∃o B,φ o=some B∧B.has k∧memB bad o=false)
section
variable {P:Program}{C:Ctx}{φ:Nat→Option Blk}{σ:St}{a:Act}{w:World}{o:Oper}
theorem Ins.of_vals {g:Bool}{M:List (Nat×Nat)}{hsC:List (Nat×Ob)}{vs us:List V}{vals:List Value}(hr:RR C φ σ a w)(h1:vals.length=vs.length)
  (h2:∀(j:Nat) x v,vals[j]? = some x→vs[j]? = some v→Rep φ (Imm C φ w) w x v)
  (hinj:∀{a b s:Nat},look M a=some s→look M b=some s→a=b) (hpar:∀{c a:Nat},look M c=some a→100000≤c)
  (hv:Vws σ.hp g false (snds M) (fun a b=>look M b=some a) vs us) (hobs:ObsW σ.hp g false (snds M) (fun a b=>look M b=some a) σ.hp M hsC):
  Ins (QoX C φ w g (snds M)) (fun c=>(look M c).bind φ) w vals.toArray us hsC:=by
 obtain⟨h3,h4⟩:=hv.get
 obtain⟨h5,h6⟩:=hobs.get
 have hm:∀a b B,look M b=some a→φ a=some B→(look M b).bind φ=some B:=fun a b B h1 h2=>by rw [h1];exact h2
 have hI:false=false→∀k,Imm C φ w k→QoX C φ w g (snds M) k∧w.heap[k]? = w.heap[k]? := fun _ k hk=>⟨.inl hk,rfl⟩
 have hown:∀b z rs B,g=true→memB (snds M) b=false→look σ.hp b=some (.arr z rs)→φ b=some B→QoX C φ w g (snds M) B.b∧w.heap[B.b]? = w.heap[B.b]? ∧ QaC (Imm C φ w) w B z rs:=
  fun b z rs B hg hbad hb hB=>⟨.inr ⟨hg,b,B,hB,B.self,hbad⟩,rfl,hr.block hB hb⟩
 have inv:∀{c:Nat} {B:Blk},(look M c).bind φ=some B→∃s,look M c=some s∧φ s=some B:=fun h=>by
  obtain⟨s,h1,h2⟩:=Option.bind_eq_some_iff.1 h;exact⟨s,h1,h2⟩
 refine⟨fun k hk=>?_,fun c c' B B' k e1 e2 b1 b2=>?_,fun c B e=>?_,by simp;omega,fun j x u hx hu=>?_,fun c ob e=>?_⟩
 ·rcases hk with hk | ⟨_,o,B,hB,hk,_⟩
  ·exact hk.1
  ·exact(hr.lt o B k hB hk).1
 ·obtain⟨s,e3,e4⟩:=inv e1
  obtain⟨s',e5,e6⟩:=inv e2
  have:=hr.inj s s' B B' k e4 e6 b1 b2
  subst this
  exact hinj e3 e5
 ·obtain⟨s,e3,e4⟩:=inv e
  refine⟨hpar e3,fun k hk=>⟨(hr.lt s B k e4 hk).1,fun hS=>?_⟩,h6 c s e3⟩
  rcases hS with hS | ⟨_,o,B',hB',hk',hbad⟩
  ·exact hS.2.2 s B e4 hk
  ·have:=hr.inj o s B' B k hB' e4 hk' hk
   subst this
   rw [Qn7 e3]at hbad;cases hbad
 ·simp only [List.getElem?_toArray]at hx
  have hj:j<vs.length:=by rw [←h1];exact(List.getElem?_eq_some_iff.1 hx).1
  exact(h4 j vs[j] u (List.getElem?_eq_getElem hj) hu).sound hm hI hown (h2 j x _ hx (List.getElem?_eq_getElem hj))
 ·obtain⟨s,ob0,e1,e2,e3⟩:=h5 c ob e
  rcases hr.heap s ob0 e2 with⟨B,hB,hrep⟩|⟨hn,z,rfl⟩
  ·exact .inl ⟨B,by rw [e1];exact hB,e3.sound hm hI hown (fun _ _=>rfl) hrep⟩
  ·cases e3;exact .inr ⟨by rw [e1];exact hn,z,rfl⟩
def join (φ:Nat→Option Blk)(M N:List (Nat×Nat))(dead:List Nat)(φ':Nat→Option Blk):Nat→Option Blk:=fun o=>match look N o with
 | some c=>φ' c
 | none=>delL φ dead o
def St.after (σ:St)(dead:List Nat)(hsN:List (Nat×Ob)):St:=⟨(σ.killL dead).fr,hsN++(σ.killL dead).hp⟩
theorem Qet {α:Type}:∀(l r:List (Nat×α)) (t:Nat),look (l++r) t=(look l t).orElse fun _=>look r t:=by
 intro l
 induction l with
 | nil=>intro r t;rfl
 | cons p l ih=>
  intro r t
  obtain⟨k,u⟩:=p
  by_cases e:k=t
  ·subst e;rw [List.cons_append,Qq,Qq];rfl
  ·rw [List.cons_append,Qn _ _ e,Qn _ _ e];exact ih r t
theorem RR.after {g:Bool}{M N:List (Nat×Nat)}{dead:List Nat}{outs hsN hs':List (Nat×Ob)}{φ':Nat→Option Blk}{w':World}{x:Value}{v:V}(hr:RR C φ σ a w)(hn:Names σ M N dead outs)
  (ho:Outs (QoX C φ w g (snds M)) (fun c=>(look M c).bind φ) w φ' w' x v hs') (hso:∀c ob,look outs c=some ob→look hs' c=some ob)
  (hM:∀c s,look M c=some s→∃ob,look σ.hp s=some ob) (hback:ObsW [] false g [] (fun c b=>look N b=some c) outs N hsN):RR C (join φ M N dead φ') (σ.after dead hsN) a w'∧∀{r':V},Vw [] false g [] (fun c b=>look N b=some c) v r'→
   Rep (join φ M N dead φ') (Imm C (join φ M N dead φ') w') w' x r':=by
 have inv:∀{c:Nat} {B:Blk},(look M c).bind φ=some B→∃s,look M c=some s∧φ s=some B:=fun h=>by
  obtain⟨s,h1,h2⟩:=Option.bind_eq_some_iff.1 h;exact⟨s,h1,h2⟩
 have jN:∀{b c:Nat},look N b=some c→join φ M N dead φ' b=φ' c:=fun h=>by simp only [join,h]
 have jO:∀{b:Nat},look N b=none→join φ M N dead φ' b=delL φ dead b:=fun h=>by simp only [join,h]
 obtain⟨hb1,hb2⟩:=hback.get
 have old:∀{c B k},φ' c=some B→B.has k→k<w.heap.size→∃c' s B',look M c'=some s∧φ s=some B'∧B'.has k:=fun hB hk hlt=>by
  obtain⟨c',B',h1,h2⟩:=(ho.lt _ _ _ hB hk).2 hlt
  obtain⟨s,h3,h4⟩:=inv h1
  exact⟨c',s,B',h3,h4,h2⟩
 have keep:∀o B,delL φ dead o=some B→join φ M N dead φ' o=some B:=fun o B hB=>by
  cases hl:look N o with
  | none=>rw [jO hl];exact hB
  | some c=>
   rw [jN hl]
   obtain⟨h1,h2⟩:=Qes hB
   rcases hn.fresh hl with h | ⟨c',h⟩|h
   ·rw [h]at h1;cases h1
   ·rcases hn.keep h with h3 | ⟨h3,h4,ob5,h5⟩
    ·rw [h3]at h1;cases h1
    ·rw [hl]at h4;cases h4
     exact ho.stay.2 c ob5 B h3 (hso _ _ h5) (by show(look M c).bind φ=some B;rw [h];exact h2)
   ·rw [hr.none_of_look h]at h2;cases h2
 have untouched:∀k,k<w.heap.size→(∀s B,φ s=some B→B.has k→∀c,look M c≠some s)→w'.heap[k]? = w.heap[k]? := fun k hlt hne=>
  ho.kept k hlt fun c B hB hk=>by obtain⟨s,h1,h2⟩:=inv hB;exact hne s B h2 hk c h1
 have hI:∀k,Imm C φ w k→Imm C (join φ M N dead φ') w' k∧w'.heap[k]? = w.heap[k]? := fun k hk=>by
  refine⟨⟨Nat.lt_of_lt_of_le hk.1 ho.size,hk.2.1,fun o B hB hh=>?_⟩,untouched k hk.1 fun s B hB hh=>absurd hh (hk.2.2 s B hB)⟩
  cases hl:look N o with
  | none=>rw [jO hl]at hB;exact hk.2.2 o B (Qes hB).2 hh
  | some c=>
   rw [jN hl]at hB
   obtain⟨c',s,B',_,h2,h3⟩:=old hB hh hk.1
   exact hk.2.2 s B' h2 h3
 have hA:g=false→∀k,Aft (QoX C φ w g (snds M)) φ' w w' k→Imm C (join φ M N dead φ') w' k∧w'.heap[k]? = w'.heap[k]? := fun hg k hk=>by
  obtain⟨h1,h2,h3⟩:=hk
  by_cases hlt:k<w.heap.size
  ·rcases h2 hlt with h | ⟨h,_⟩
   ·exact⟨(hI k h).1,rfl⟩
   ·rw [hg]at h;cases h
  ·refine⟨⟨h1,fun h=>absurd hr.size (by omega),fun o B hB hh=>?_⟩,rfl⟩
   cases hl:look N o with
   | none=>rw [jO hl]at hB;have:=(hr.lt o B k (Qes hB).2 hh).1;omega
   | some c=>rw [jN hl]at hB;exact h3 c B hB hh
 have hmB:∀c b B,look N b=some c→φ' c=some B→join φ M N dead φ' b=some B:=fun c b B h1 h2=>by rw [jN h1];exact h2
 have hownB:∀b z rs B,false=true→memB [] b=false→look ([]:List (Nat×Ob)) b=some (.arr z rs)→φ' b=some B→
   Imm C (join φ M N dead φ') w' B.b∧w'.heap[B.b]? = w'.heap[B.b]? ∧ QaC (Aft (QoX C φ w g (snds M)) φ' w w') w' B z rs:=fun _ _ _ _ h=>by cases h
 have stay2:∀o ob B,200000≤o→look (σ.after dead hsN).hp o=some ob→C.φ0 o=some B→join φ M N dead φ' o=some B:=fun o ob B hge hob hB=>by
  rw [St.after,Qet]at hob
  cases hx:look hsN o with
  | some y=>
   obtain⟨c,ob1,h1,h2,h3⟩:=hb1 o _ hx
   obtain⟨h4,h5⟩:=hn.stay h1 hge
   obtain⟨ob2,h6⟩:=hM _ _ h5
   have h7:=hr.stay.2 o ob2 B hge h6 hB
   rw [jN h1]
   exact ho.stay.2 c ob1 B h4 (hso _ _ h2) (by show(look M c).bind φ=some B;rw [h5];exact h7)
  | none=>
   rw [hx]at hob
   have l:look N o=none:=by
    cases l:look N o with
    | none=>rfl
    | some c=>obtain⟨ob',h'⟩:=hb2 o c l;rw [hx]at h';cases h'
   obtain⟨h1,ob',h2,_,_⟩:=QnG dead σ o ob hob
   rw [jO l,Qna h1];exact hr.stay.2 o ob' B hge h2 hB
 refine⟨⟨ho.os.trans hr.os,ho.tape.trans hr.tape,ho.output.trans hr.output,Nat.le_trans hr.size ho.size,fun k h1 h2=>?_,fun o1 o2 B1 B2 k e1 e2 b1 b2=>?_,fun o B hB=>?_,fun o B k hB hk=>?_,fun o B k hB hk hlt=>?_,
  ⟨fun o B hge hB=>?_,stay2⟩,hr.tmps,hr.defers.mono hI,fun t u hu=>?_,fun o ob hob=>?_⟩,fun hv=>hv.sound hmB hA hownB ho.rep⟩
 ·rw [untouched k (Nat.lt_of_lt_of_le h1 hr.size) fun s B hB hh=>absurd ((hr.lt s B k hB hh).2 h1) h2]
  exact hr.kept k h1 h2
 ·cases l1:look N o1 with
  | some c1=>
   rw [jN l1]at e1
   cases l2:look N o2 with
   | some c2=>
    rw [jN l2]at e2
    have:=ho.inj c1 c2 B1 B2 k e1 e2 b1 b2
    subst this
    exact hn.injN l1 l2
   | none=>
    rw [jO l2]at e2
    obtain⟨g1,g2⟩:=Qes e2
    obtain⟨c',s,B',h1,h2,h3⟩:=old e1 b1 (hr.lt o2 B2 k g2 b2).1
    have:=hr.inj s o2 B' B2 k h2 g2 h3 b2
    subst this
    rcases hn.keep h1 with h | ⟨_,h,_⟩
    ·rw [h]at g1;cases g1
    ·rw [h]at l2;cases l2
  | none=>
   rw [jO l1]at e1
   obtain⟨g1,g2⟩:=Qes e1
   cases l2:look N o2 with
   | some c2=>
    rw [jN l2]at e2
    obtain⟨c',s,B',h1,h2,h3⟩:=old e2 b2 (hr.lt o1 B1 k g2 b1).1
    have:=hr.inj s o1 B' B1 k h2 g2 h3 b1
    subst this
    rcases hn.keep h1 with h | ⟨_,h,_⟩
    ·rw [h]at g1;cases g1
    ·rw [h]at l1;cases l1
   | none=>
    rw [jO l2]at e2
    exact hr.inj o1 o2 B1 B2 k g2 (Qes e2).2 b1 b2
 ·cases l:look N o with
  | some c=>
   obtain⟨ob,hob⟩:=hb2 o c l
   exact⟨ob,by rw [St.after,Qet,hob];rfl⟩
  | none=>
   rw [jO l]at hB
   obtain⟨h1,h2⟩:=Qes hB
   obtain⟨ob,hob⟩:=hr.dom o B h2
   obtain⟨ob',hob'⟩:=Qqg dead σ o ob h1 hob
   rw [St.after,Qet]
   cases hx:look hsN o with
   | some y=>exact⟨y,rfl⟩
   | none=>exact⟨ob',hob'⟩
 ·cases l:look N o with
  | some c=>
   rw [jN l]at hB
   refine⟨(ho.lt c B k hB hk).1,fun hlt=>?_⟩
   obtain⟨c',s,B',h1,h2,h3⟩:=old hB hk (Nat.lt_of_lt_of_le hlt hr.size)
   exact(hr.lt s B' k h2 h3).2 hlt
  | none=>
   rw [jO l]at hB
   have:=hr.lt o B k (Qes hB).2 hk
   exact⟨Nat.lt_of_lt_of_le this.1 ho.size,this.2⟩
 ·cases l:look N o with
  | some c=>
   rw [jN l]at hB
   rcases Nat.lt_or_ge k w.heap.size with hlt' | hge
   ·obtain⟨c',s,B',h1,h2,h3⟩:=old hB hk hlt'
    rcases hn.low l hlt with h | h
    ·have:=ho.new c B k hB hk h;omega
    ·rcases h h1 with h | ⟨hc',⟨ob',hob'⟩,hN'⟩
     ·exact hr.new s B' k h2 h3 h
     ·have h4:=ho.stay.2 c' ob' B' hc' (hso _ _ hob') (by show(look M c').bind φ=some B';rw [h1];exact h2)
      have h5:=ho.inj c c' B B' k hB h4 hk h3
      subst h5
      have:=hn.injN l hN'
      subst this
      exact hr.new _ B' k h2 h3 hlt
   ·exact Nat.le_trans hr.size hge
  | none=>rw [jO l]at hB;exact hr.new o B k (Qes hB).2 hk hlt
 ·cases l:look N o with
  | some c=>
   rw [jN l]at hB
   obtain⟨h1,h2⟩:=hn.stay l hge
   obtain⟨s,h3,h4⟩:=inv (ho.stay.1 c B h1 hB)
   rw [h2]at h3;cases h3
   exact hr.stay.1 o B hge h4
  | none=>rw [jO l]at hB;exact hr.stay.1 o B hge (Qes hB).2
 ·obtain⟨u',hu',hk⟩:=QrA dead σ t u hu
  obtain⟨y,hy,hrep⟩:=hr.frame t u' hu'
  exact⟨y,hy,(hk _ _ _ _ hrep).mono keep hI⟩
 ·rw [St.after,Qet]at hob
  cases hx:look hsN o with
  | some y=>
   rw [hx]at hob;cases hob
   obtain⟨c,ob1,h1,h2,h3⟩:=hb1 o _ hx
   rcases ho.heap c ob1 (hso _ _ h2)with⟨B,hB,hrep⟩|⟨hnone,z,rfl⟩
   ·exact .inl ⟨B,hmB c o B h1 hB,h3.sound hmB hA hownB (fun _ _=>rfl) hrep⟩
   ·cases h3;exact .inr ⟨by rw [jN h1];exact hnone,z,rfl⟩
  | none=>
   rw [hx]at hob
   have l:look N o=none:=by
    cases l:look N o with
    | none=>rfl
    | some c=>obtain⟨ob',h'⟩:=hb2 o c l;rw [hx]at h';cases h'
   obtain⟨h1,ob',h2,h3,h4⟩:=QnG dead σ o ob hob
   rcases hr.heap o ob' h2 with⟨B,hB,hrep⟩|⟨hnone,z,rfl⟩
   ·have hBd:delL φ dead o=some B:=by rw [Qna h1];exact hB
    refine .inl ⟨B,keep o B hBd,(h3 _ _ _ _ hrep).mono keep hI fun k hk=>untouched k (hr.lt o B k hB hk).1 fun s B' hB' hk' c hc=>?_⟩
    have:=hr.inj s o B' B k hB' hB hk' hk
    subst this
    rcases hn.keep hc with h | ⟨_,h,_⟩
    ·rw [h]at h1;cases h1
    ·rw [h]at l;cases l
   ·exact .inr ⟨by rw [jO l,Qna h1];exact hnone,z,h4 z rfl⟩
end
end Go.Vm
